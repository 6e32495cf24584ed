/-
  part
-/
import Derived.Test.YtgiimmkmjpbecaaGreatPk3
import Derived.Test.YtgiimmkmjpbecaaGreatProg
import Derived.Handy
namespace Go.Proofs.YtgiimmkmjpbecaaGreat
open Go.RowKit
set_option linter.unusedVariables false
set_option maxRecDepth 100000
set_option maxHeartbeats 4000000
def p9 (l:List Rn) (i:Nat):Rn:=l.getD i ⟨0,0,0⟩
def rnf (r:Rn):Nat->Value
 | 0=> .int .i64 r.c
 | 1=> .int .i64 r.v
 | _=> .int .i64 r.e
def Nv (l:List Rn) (i:Nat):Value:=rnf (p9 l (i/3)) (i%3)
theorem a6O (l:List Rn) (i:Nat):Nv l (i*3)= .int .i64 (p9 l i).c:=by unfold Nv;rw[show i*3/3=i by omega,show i*3%3=0 by omega];rfl
theorem a6P (l:List Rn) (i:Nat):Nv l (i*3+1)= .int .i64 (p9 l i).v:=by unfold Nv;rw[show(i*3+1)/3=i by omega,show(i*3+1)%3=1 by omega];rfl
theorem a6Q (l:List Rn) (i:Nat):Nv l (i*3+2)= .int .i64 (p9 l i).e:=by unfold Nv;rw[show(i*3+2)/3=i by omega,show(i*3+2)%3=2 by omega];rfl
theorem a0N (l:List Rn) (i:Nat):(Nv l i).oneCell'=true:=by
 unfold Nv rnf;split <;> rfl
theorem JU (l l':List Rn) (i:Nat):p9 (l++l') i=if i<l.length then p9 l i else p9 l' (i-l.length):=by
 unfold p9;simp only [List.getD_eq_getElem?_getD];split
 · rw[bR (by assumption)]
 rw[bL ω]
theorem a0M (l l':List Rn) (i:Nat):cat (l.length*3) (Nv l) (Nv l') i=Nv (l++l') i:=by
 unfold cat Nv;rw[JU];by_cases h:i<l.length*3
 · rw[aa h,aa ω]
 rw[a8 h,a8 ω,show(i-l.length*3)/3=i/3-l.length by omega,show(i-l.length*3)%3=i%3 by omega]
def ym (w:World) (B:Nat) (A:ax) (n:Nat) (l:List Rn):Prop:=n=l.length/\Rd w B A (n*3) (Nv l)
def l4 (w:World) (b0:Nat) (A:ax) (n c:Nat) (l:List Rn):Prop:=n=l.length/\Own w b0 188 3 A n c (Nv l)
section
variable {w w':World} {b0 B n c:Nat} {A:ax} {l:List Rn}
theorem l4.rd (h:l4 w b0 A n c l):ym w w.heap.size A n l:= ⟨h.1,h.2.rd⟩
theorem l4.di:l4 w b0 none 0 0 []:= ⟨rfl,Own.di⟩
theorem l4.alloc (h:l4 w b0 A n c l) (o:Obj):l4 (w.alloc o) b0 A n c l:= ⟨h.1,h.2.alloc o⟩
theorem l4.below {B:Nat} (h:l4 w b0 A n c l) (a:Below B w w') (b:∀g,ai A=some g->g<B):l4 w' b0 A n c l:= ⟨h.1,h.2.below a b⟩
theorem l4.keeps (h:l4 w b0 A n c l) (b:Below w.heap.size w w'):l4 w' b0 A n c l:=h.below b λ_ a=>(h.2.lt a).2
theorem l4.more {b1:Nat} (h:l4 w b0 A n c l) (a:b1<=b0):l4 w b1 A n c l:= ⟨h.1,h.2.more a⟩
theorem ym.below (h:ym w B A n l) (a:Below B w w'):ym w' B A n l:= ⟨h.1,h.2.below a⟩
theorem ym.more {B':Nat} (h:ym w B A n l) (a:B<=B'):ym w B' A n l:= ⟨h.1,h.2.more a⟩
theorem Pu (w:World) (r:Rn) (t:TypeId):Ar (w.alloc (.cells #[.int .i64 r.c, .int .i64 r.v, .int .i64 r.e] t)) w.heap.size 3 (rnf r):=
 Ar.new w _ t rfl λi hi=>by
  obtain rfl | rfl | rfl:i=0\/i=1\/i=2:=ω
  · rfl
  · rfl
  rfl
theorem ym.lit (w:World) (a b d:Int) (t:TypeId):ym (w.alloc (.cells #[.int .i64 a, .int .i64 b, .int .i64 d] t)) (w.heap.size+1) (some ⟨w.heap.size,0,none⟩) 1 [⟨a,b,d⟩]:= ⟨rfl,λ_=> ⟨_,rfl,σ,λi hi=>by
 rw[nW];have h:=(Pu w ⟨a,b,d⟩ t).cell (i:=i) ω;rw[h];unfold Nv;rw[show i/3=0 by omega,show i%3=i by omega];rfl⟩⟩
theorem JY:(Tryz.prog.info? 188).map (λi=>(i.zero,i.size,i.bytes))=some (some (.agg #[.int .i64 0, .int .i64 0, .int .i64 0]),3,24):=by kernel_rfl
theorem fC {w:World} {d:Array Oper} {rest:List Oper} {o:Oper} {a:Act} {Q:Exit->Act->World->Prop} (b0:Nat) (i:TypeInfo) (k:Region.wanted o (yielded d a.tmps)=true) (s x:Operand)
  (v:o.op= .call { callee:= .builtin .append,args:= #[s,x],argTypes:= #[166, 166] }) (hi:Tryz.prog.info? 188 =some i) (hz:i.zero=some (.agg #[.int .i64 0, .int .i64 0, .int .i64 0]))
  (e:i.size=3) (p:i.bytes=24) {A:ax} {n c:Nat} {l:List Rn} (u:a.eval s= .slice A n c) (b:l4 w b0 A n c l)
  {B:Nat} {A':ax} {m c':Nat} {l':List Rn} (t:a.eval x= .slice A' m c') (r:ym w B A' m l')
  (q:n+m<=1000000000000) (f:b0<=w.heap.size)
  (h:∀A2 c2 w2,l4 w2 b0 A2 (n+m) c2 (l++l')->w.grownBy w2 (ai A)->(ai A2=ai A\/ai A2=some w.heap.size)->wpList Tryz.prog d Q rest (a.put o.dst (.slice A2 (n+m) c2)) w2):wpList Tryz.prog d Q (o::rest) a w:=by
 refine wpList_step λK y=> ?_;rw[aa k];obtain⟨A2,c2,w2,g,C,z,h4⟩ :=iY (P:=Tryz.prog) w b0 166 o.type 188 i _ 3 24 Tryz.underlying166 hi hz e p rfl ω A n c _ b.2 B A' m c' _ r.2 (λj _=>a0N l' j) q ω f;unfold Oper.wp execOp;simp only [v,resolve,invoke,builtin,Sem.run_bind,Sem.run_pure,Result.andThen_ok,List.map_toArray,List.map_cons,List.map_nil,u,t,g];exact y _ _ (h A2 c2 w2 ⟨by rw[ae,<-b.1,<-r.1],C.congr λj D=>by rw[b.1,a0M]⟩ z h4)
end
def O9 (w:World) (L:List Rn) (e:Ending) (w':World):Prop:=∃A n c,e= .returned (.slice A n c)/\l4 w' w.heap.size A n c L/\Below w.heap.size w w'
def a7c (w:World) (k:Int) (a:Nat) (gk:Nat) (d b:Value) (wr:World):Prop:=
 ∃(n m c:Nat) (A:ax) (L:List Rn),d= .int .i64 n/\b= .slice A m c/\n<=a/\m+n<=a/\Hid (l4 wr w.heap.size A m c L)/\Hid (L++ik k n=ik k a)/\Hid (Below w.heap.size w wr)/\gk=n
theorem vT (w:World) (k:Int) (v:Nat) (V:v<=1000000) (W:0<=k):Calls Tryz.prog 143 #[.int .i64 k, .int .i64 v] w (O9 w (ik k v)):=by
 obtain⟨y,hi,F,E,D⟩ :=aL JY;have d:=η (⟨hi,F,E,D⟩ :_/\_/\_/\_);clear hi F E D
 go_in
 go_wp2_with fail;go_loopg [1,5] v (a7c w k v)
 case atStart=>exact⟨v,0,0,none,[],rfl,rfl,af _,ω,l4.di,rfl,aw _ _,rfl⟩
 obtain⟨n,m,c,A,L,rfl,rfl,T,O,l,u,o,rfl⟩ :=hrel;have U:(0:Int)<=(gk:Int)/\(gk:Int)<=1000000:=ω;by_cases M:gk=0
 · subst M;have S:Hid (L=ik k v):=by have:=u.out;rw[tB,ak]at this;exact this
   clear u
   go_wp2_with fail;go_ret;exact⟨A,m,c,rfl,by rw[<-S.out];exact l.out,o.out⟩
 have R:(0:Int)<(gk:Int):=ω;by_cases N:k=0
 rotate_left
 · have P:0<k:=ω;have Q:(k==0)=false:=by simpa using N
   by_cases J:3<=gk
   rotate_left
   · have C:¬(3:Int)<=(gk:Int):=ω;have p:=u.out;rw[vS M ω]at p;have t:=η p;clear p u;have f:=l.out.alloc (.cells #[.int .i64 k, .int .i64 0, .int .i64 0] 188);have g:=o.out.alloc o.out.size (.cells #[.int .i64 k, .int .i64 0, .int .i64 0] 188);have b:=η (⟨f,g⟩ :_/\_);clear f g
     go_wp2_with (at_builtin;(refine fC w.heap.size y rfl (.tmp 10) (.tmp 13) rfl d.1 d.2.1 d.2.2.1 d.2.2.2 rfl b.1 rfl (ym.lit wr k 0 0 188) ω b.2.size ?_)
                  intro s d4 z e a r;have i:=η (⟨e,b.2.grown a b.2.size λq j=>(l.out.2.lt j).1⟩ :_/\_);clear e a r)
     go_roundg (gk-1)
     case measure=>omega
     case rel=>exact⟨gk-1,m+1,d4,s,_,by go_num,rfl,ω,ω,i.1,by show _=_;rw[av];exact t,i.2,rfl⟩
   have C:(3:Int)<=(gk:Int):=ω;have p:=u.out;rw[Bv P J]at p;have t:Hid (∀(q:Nat) (x:Int),min gk 6=q->x=((q:Nat):Int)-3->(L++[⟨16,x,2⟩])++ik k (gk-q)=ik k v):=λq x j H=>by rw[H,<-j,av];exact p
   clear p u;have B:(gk<6/\(gk:Int)<6)\/(6<gk/\(6:Int)<(gk:Int))\/gk=6:=ω;rcases B with ⟨h,I⟩ | ⟨h,I⟩ | rfl
   · have f:=l.out.alloc (.cells #[.int .i64 16, .int .i64 ((gk:Int)-3), .int .i64 2] 188);have g:=o.out.alloc o.out.size (.cells #[.int .i64 16, .int .i64 ((gk:Int)-3), .int .i64 2] 188);have b:=η (⟨f,g⟩ :_/\_);clear f g
     go_wp2_with (at_builtin;(refine fC w.heap.size y rfl (.tmp 57) (.tmp 61) rfl d.1 d.2.1 d.2.2.1 d.2.2.2 rfl b.1 rfl (ym.lit wr 16 ((gk:Int)-3) 2 188) ω b.2.size ?_)
                  intro s d4 z e a r;have i:=η (⟨e,b.2.grown a b.2.size λq j=>(l.out.2.lt j).1⟩ :_/\_);clear e a r)
     go_roundg (gk-gk)
     case measure=>omega
     case rel=>exact⟨gk-gk,m+1,d4,s,_,σ,rfl,ω,ω,i.1,t.out gk ((gk:Int)-3) ω ω,i.2,rfl⟩
   · have f:=l.out.alloc (.cells #[.int .i64 16, .int .i64 3, .int .i64 2] 188);have g:=o.out.alloc o.out.size (.cells #[.int .i64 16, .int .i64 3, .int .i64 2] 188);have b:=η (⟨f,g⟩ :_/\_);clear f g
     go_wp2_with (at_builtin;(refine fC w.heap.size y rfl (.tmp 57) (.tmp 61) rfl d.1 d.2.1 d.2.2.1 d.2.2.2 rfl b.1 rfl (ym.lit wr 16 3 2 188) ω b.2.size ?_)
                  intro s d4 z e a r;have i:=η (⟨e,b.2.grown a b.2.size λq j=>(l.out.2.lt j).1⟩ :_/\_);clear e a r)
     go_roundg (gk-6)
     case measure=>omega
     case rel=>exact⟨gk-6,m+1,d4,s,_,by go_num,rfl,ω,ω,i.1,t.out 6 3 ω ω,i.2,rfl⟩
   have f:=l.out.alloc (.cells #[.int .i64 16, .int .i64 3, .int .i64 2] 188);have g:=o.out.alloc o.out.size (.cells #[.int .i64 16, .int .i64 3, .int .i64 2] 188);have b:=η (⟨f,g⟩ :_/\_);clear f g
   go_wp2_with (at_builtin;(refine fC w.heap.size y rfl (.tmp 57) (.tmp 61) rfl d.1 d.2.1 d.2.2.1 d.2.2.2 rfl b.1 rfl (ym.lit wr 16 3 2 188) ω b.2.size ?_)
                intro s d4 z e a r;have i:=η (⟨e,b.2.grown a b.2.size λq j=>(l.out.2.lt j).1⟩ :_/\_);clear e a r)
   go_roundg (0)
   case measure=>omega
   case rel=>exact⟨0,m+1,d4,s,_,rfl,rfl,ω,ω,i.1,t.out 6 3 ω ω,i.2,rfl⟩
 subst N;by_cases G:11<=gk
 · have K:(11:Int)<=(gk:Int):=ω;have p:=u.out;rw[Eh G]at p;have t:Hid (∀(q:Nat) (x:Int),min gk 138=q->x=((q:Nat):Int)-11->(L++[⟨18,x,7⟩])++ik 0 (gk-q)=ik 0 v):=λq x j H=>by rw[H,<-j,av];exact p
   clear p u;have B:(gk<138/\(gk:Int)<138)\/(138<gk/\(138:Int)<(gk:Int))\/gk=138:=ω;rcases B with ⟨h,I⟩ | ⟨h,I⟩ | rfl
   · have f:=l.out.alloc (.cells #[.int .i64 18, .int .i64 ((gk:Int)-11), .int .i64 7] 188);have g:=o.out.alloc o.out.size (.cells #[.int .i64 18, .int .i64 ((gk:Int)-11), .int .i64 7] 188);have b:=η (⟨f,g⟩ :_/\_);clear f g
     go_wp2_with (at_builtin;(refine fC w.heap.size y rfl (.tmp 26) (.tmp 30) rfl d.1 d.2.1 d.2.2.1 d.2.2.2 rfl b.1 rfl (ym.lit wr 18 ((gk:Int)-11) 7 188) ω b.2.size ?_)
                  intro s d4 z e a r;have i:=η (⟨e,b.2.grown a b.2.size λq j=>(l.out.2.lt j).1⟩ :_/\_);clear e a r)
     go_roundg (gk-gk)
     case measure=>omega
     case rel=>exact⟨gk-gk,m+1,d4,s,_,σ,rfl,ω,ω,i.1,t.out gk ((gk:Int)-11) ω ω,i.2,rfl⟩
   · have f:=l.out.alloc (.cells #[.int .i64 18, .int .i64 127, .int .i64 7] 188);have g:=o.out.alloc o.out.size (.cells #[.int .i64 18, .int .i64 127, .int .i64 7] 188);have b:=η (⟨f,g⟩ :_/\_);clear f g
     go_wp2_with (at_builtin;(refine fC w.heap.size y rfl (.tmp 26) (.tmp 30) rfl d.1 d.2.1 d.2.2.1 d.2.2.2 rfl b.1 rfl (ym.lit wr 18 127 7 188) ω b.2.size ?_)
                  intro s d4 z e a r;have i:=η (⟨e,b.2.grown a b.2.size λq j=>(l.out.2.lt j).1⟩ :_/\_);clear e a r)
     go_roundg (gk-138)
     case measure=>omega
     case rel=>exact⟨gk-138,m+1,d4,s,_,by go_num,rfl,ω,ω,i.1,t.out 138 127 ω ω,i.2,rfl⟩
   have f:=l.out.alloc (.cells #[.int .i64 18, .int .i64 127, .int .i64 7] 188);have g:=o.out.alloc o.out.size (.cells #[.int .i64 18, .int .i64 127, .int .i64 7] 188);have b:=η (⟨f,g⟩ :_/\_);clear f g
   go_wp2_with (at_builtin;(refine fC w.heap.size y rfl (.tmp 26) (.tmp 30) rfl d.1 d.2.1 d.2.2.1 d.2.2.2 rfl b.1 rfl (ym.lit wr 18 127 7 188) ω b.2.size ?_)
                intro s d4 z e a r;have i:=η (⟨e,b.2.grown a b.2.size λq j=>(l.out.2.lt j).1⟩ :_/\_);clear e a r)
   go_roundg 0
   case measure=>omega
   case rel=>exact⟨0,m+1,d4,s,_,rfl,rfl,ω,ω,i.1,t.out 138 127 ω ω,i.2,rfl⟩
 have K:¬(11:Int)<=(gk:Int):=ω;by_cases J:3<=gk
 · have C:(3:Int)<=(gk:Int):=ω;have p:=u.out;rw[Bw J G]at p;have t:=η p;clear p u;have f:=l.out.alloc (.cells #[.int .i64 17, .int .i64 ((gk:Int)-3), .int .i64 3] 188);have g:=o.out.alloc o.out.size (.cells #[.int .i64 17, .int .i64 ((gk:Int)-3), .int .i64 3] 188);have b:=η (⟨f,g⟩ :_/\_);clear f g
   go_wp2_with (at_builtin;(refine fC w.heap.size y rfl (.tmp 42) (.tmp 46) rfl d.1 d.2.1 d.2.2.1 d.2.2.2 rfl b.1 rfl (ym.lit wr 17 ((gk:Int)-3) 3 188) ω b.2.size ?_)
                intro s d4 z e a r;have i:=η (⟨e,b.2.grown a b.2.size λq j=>(l.out.2.lt j).1⟩ :_/\_);clear e a r)
   go_roundg 0
   case measure=>omega
   case rel=>exact⟨0,m+1,d4,s,_,rfl,rfl,ω,ω,i.1,by show _=_;rw[tB,ak];exact t,i.2,rfl⟩
 have C:¬(3:Int)<=(gk:Int):=ω;have p:=u.out;rw[vS M ω]at p;have t:=η p;clear p u;have f:=l.out.alloc (.cells #[.int .i64 0, .int .i64 0, .int .i64 0] 188);have g:=o.out.alloc o.out.size (.cells #[.int .i64 0, .int .i64 0, .int .i64 0] 188);have b:=η (⟨f,g⟩ :_/\_);clear f g
 go_wp2_with (at_builtin;(refine fC w.heap.size y rfl (.tmp 10) (.tmp 13) rfl d.1 d.2.1 d.2.2.1 d.2.2.2 rfl b.1 rfl (ym.lit wr 0 0 0 188) ω b.2.size ?_)
              intro s d4 z e a r;have i:=η (⟨e,b.2.grown a b.2.size λq j=>(l.out.2.lt j).1⟩ :_/\_);clear e a r)
 go_roundg (gk-1)
 case measure=>omega
 case rel=>exact⟨gk-1,m+1,d4,s,_,by go_num,rfl,ω,ω,i.1,by show _=_;rw[av];exact t,i.2,rfl⟩
end Go.Proofs.YtgiimmkmjpbecaaGreat
