/-
  part
-/
import Derived.Test.YtddhegejmkgmjaaGreatProg
import Derived.Test.YtddhegejmkgmjaaGreatPk3
import Derived.Handy
namespace Go.Proofs.YtddhegejmkgmjaaGreat
open Go.RowKit
set_option linter.unusedVariables false
set_option maxRecDepth 100000
set_option maxHeartbeats 4000000
def kr (l:List Rn) (i:Nat):Rn:=l.getD i ⟨0,0,0⟩
def rnf (r:Rn):Nat->Value
 | 0=> .int .i64 r.c
 | 1=> .int .i64 r.v
 | _=> .int .i64 r.e
def GF (l:List Rn) (i:Nat):Value:=rnf (kr l (i/3)) (i%3)
theorem a2M (l:List Rn) (i:Nat):GF l (i*3)= .int .i64 (kr l i).c:=by unfold GF;rw[show i*3/3=i by omega,show i*3%3=0 by omega];rfl
theorem a2N (l:List Rn) (i:Nat):GF l (i*3+1)= .int .i64 (kr l i).v:=by unfold GF;rw[show(i*3+1)/3=i by omega,show(i*3+1)%3=1 by omega];rfl
theorem a2O (l:List Rn) (i:Nat):GF l (i*3+2)= .int .i64 (kr l i).e:=by unfold GF;rw[show(i*3+2)/3=i by omega,show(i*3+2)%3=2 by omega];rfl
theorem T2 (l:List Rn) (i:Nat):(GF l i).oneCell'=true:=by
 unfold GF rnf
 split <;> rfl
theorem Dx (l l':List Rn) (i:Nat):kr (l++l') i=if i<l.length then kr l i else kr l' (i-l.length):=by
 unfold kr;simp only [List.getD_eq_getElem?_getD]
 split
 · rw[List.getElem?_append_left (by assumption)]
 · rw[List.getElem?_append_right ω]
theorem T1 (l l':List Rn) (i:Nat):cat (l.length*3) (GF l) (GF l') i=GF (l++l') i:=by
 unfold cat GF;rw[Dx];by_cases h:i<l.length*3
 · rw[if_pos h,if_pos ω]
 · rw[if_neg h,if_neg ω,show(i-l.length*3)/3=i/3-l.length by omega,show(i-l.length*3)%3=i%3 by omega]
def sR (w:World) (B:Nat) (A:Option Addr) (n:Nat) (l:List Rn):Prop:=n=l.length/\Rd w B A (n*3) (GF l)
def gD (w:World) (b0:Nat) (A:Option Addr) (n c:Nat) (l:List Rn):Prop:=n=l.length/\Own w b0 141 3 A n c (GF l)
section
variable {w w':World} {b0 B n c:Nat} {A:Option Addr} {l:List Rn}
theorem gD.rd (h:gD w b0 A n c l):sR w w.heap.size A n l:= ⟨h.1,h.2.rd⟩
theorem gD.br:gD w b0 none 0 0 []:= ⟨rfl,Own.br⟩
theorem gD.alloc (h:gD w b0 A n c l) (o:Obj):gD (w.alloc o) b0 A n c l:= ⟨h.1,h.2.alloc o⟩
theorem gD.below {B:Nat} (h:gD w b0 A n c l) (a:Below B w w') (b:∀g,aa A=some g->g<B):gD w' b0 A n c l:= ⟨h.1,h.2.below a b⟩
theorem gD.keeps (h:gD w b0 A n c l) (b:Below w.heap.size w w'):gD w' b0 A n c l:=h.below b λ_ a=>(h.2.lt a).2
theorem gD.more {b1:Nat} (h:gD w b0 A n c l) (a:b1<=b0):gD w b1 A n c l:= ⟨h.1,h.2.more a⟩
theorem sR.below (h:sR w B A n l) (a:Below B w w'):sR w' B A n l:= ⟨h.1,h.2.below a⟩
theorem sR.more {B':Nat} (h:sR w B A n l) (a:B<=B'):sR w B' A n l:= ⟨h.1,h.2.more a⟩
theorem IU (w:World) (r:Rn) (t:TypeId):Ar (w.alloc (.cells #[.int .i64 r.c, .int .i64 r.v, .int .i64 r.e] t)) w.heap.size 3 (rnf r):=
 Ar.new w _ t rfl λi hi=>by
  obtain rfl | rfl | rfl:i=0\/i=1\/i=2:=ω
  · rfl
  · rfl
  · rfl
theorem sR.lit (w:World) (a b d:Int) (t:TypeId):sR (w.alloc (.cells #[.int .i64 a, .int .i64 b, .int .i64 d] t)) (w.heap.size+1) (some ⟨w.heap.size,0,none⟩) 1 [⟨a,b,d⟩]:= ⟨rfl,λ_=> ⟨_,rfl,σ,λi hi=>by
 rw[kA];have h:=(IU w ⟨a,b,d⟩ t).cell (i:=i) ω;rw[h];unfold GF;rw[show i/3=0 by omega,show i%3=i by omega];rfl⟩⟩
theorem DC:(Tryz.prog.info? 141).map (λi=>(i.zero,i.size,i.bytes))=some (some (.agg #[.int .i64 0, .int .i64 0, .int .i64 0]),3,24):=by kernel_rfl
theorem bU {w:World} {d:Array Oper} {rest:List Oper} {o:Oper} {a:Act} {Q:Exit->Act->World->Prop} (b0:Nat) (i:TypeInfo) (p:Region.wanted o (yielded d a.tmps)=true) (s x:Operand)
  (z:o.op= .call { callee:= .builtin .append,args:= #[s,x],argTypes:= #[114, 114] }) (hi:Tryz.prog.info? 141 =some i) (u:i.zero=some (.agg #[.int .i64 0, .int .i64 0, .int .i64 0]))
  (e:i.size=3) (q:i.bytes=24) {A:Option Addr} {n c:Nat} {l:List Rn} (y:a.eval s= .slice A n c) (b:gD w b0 A n c l)
  {B:Nat} {A':Option Addr} {m c':Nat} {l':List Rn} (v:a.eval x= .slice A' m c') (t:sR w B A' m l')
  (r:n+m<=1000000000000) (f:b0<=w.heap.size)
  (h:∀g c2 w2,gD w2 b0 g (n+m) c2 (l++l')->w.grownBy w2 (aa A)->(aa g=aa A\/aa g=some w.heap.size)->wpList Tryz.prog d Q rest (a.put o.dst (.slice g (n+m) c2)) w2):wpList Tryz.prog d Q (o::rest) a w:=by
 refine wpList_step λK C=> ?_
 rw[if_pos p];obtain⟨g,c2,w2,k,E,D,h4⟩ :=fj (P:=Tryz.prog) w b0 114 o.type 141 i _ 3 24 Tryz.underlying114 hi u e q rfl ω A n c _ b.2 B A' m c' _ t.2 (λj _=>T2 l' j) r ω f;unfold Oper.wp execOp;simp only [z,resolve,invoke,builtin,Sem.run_bind,Sem.run_pure,Result.andThen_ok,List.map_toArray,List.map_cons,List.map_nil,y,v,k];exact C _ _ (h g c2 w2 ⟨by rw[List.length_append,<-b.1,<-t.1],E.congr λj F=>by rw[b.1,T1]⟩ D h4)
end
def Hm (w:World) (L:List Rn) (e:Ending) (w':World):Prop:=∃A n c,e= .returned (.slice A n c)/\gD w' w.heap.size A n c L/\Below w.heap.size w w'
def a3a (w:World) (k:Int) (a:Nat) (gk:Nat) (d b:Value) (wr:World):Prop:=
 ∃(n m c:Nat) (A:Option Addr) (L:List Rn),d= .int .i64 n/\b= .slice A m c/\n<=a/\m+n<=a/\Hid (gD wr w.heap.size A m c L)/\Hid (L++dg k n=dg k a)/\Hid (Below w.heap.size w wr)/\gk=n
theorem qD (w:World) (k:Int) (v:Nat) (V:v<=1000000) (W:0<=k):Calls Tryz.prog 117 #[.int .i64 k, .int .i64 v] w (Hm w (dg k v)):=by
 obtain⟨y,hi,F,E,D⟩ :=info_parts DC;have d:=η (⟨hi,F,E,D⟩ :_/\_/\_/\_);clear hi F E D;go_enter Tryz.func117,Tryz.ntmps117
 go_wp2_with fail
 go_loopg [1,5] v (a3a w k v)
 case atStart=>exact⟨v,0,0,none,[],rfl,rfl,Nat.le_refl _,ω,gD.br,rfl,Below.refl _ _,rfl⟩
 case round=>
  obtain⟨n,m,c,A,L,rfl,rfl,T,O,l,u,o,rfl⟩ :=hrel;have U:(0:Int)<=(gk:Int)/\(gk:Int)<=1000000:=ω;by_cases M:gk=0
  · subst M;have S:Hid (L=dg k v):=by have:=u.out;rw[oh,List.append_nil]at this;exact this
    clear u
    go_wp2_with fail
    go_ret
    exact⟨A,m,c,rfl,by rw[<-S.out];exact l.out,o.out⟩
  · have R:(0:Int)<(gk:Int):=ω;by_cases N:k=0
    · subst N;by_cases G:11<=gk
      · have K:(11:Int)<=(gk:Int):=ω;have p:=u.out;rw[ye G]at p;have t:Hid (∀(q:Nat) (x:Int),min gk 138=q->x=((q:Nat):Int)-11->(L++[⟨18,x,7⟩])++dg 0 (gk-q)=dg 0 v):=λq x j H=>by rw[H,<-j,List.append_assoc];exact p
        clear p u;have B:(gk<138/\(gk:Int)<138)\/(138<gk/\(138:Int)<(gk:Int))\/gk=138:=ω;rcases B with ⟨h,I⟩ | ⟨h,I⟩ | rfl
        · have f:=l.out.alloc (.cells #[.int .i64 18, .int .i64 ((gk:Int)-11), .int .i64 7] 141);have g:=o.out.alloc o.out.size (.cells #[.int .i64 18, .int .i64 ((gk:Int)-11), .int .i64 7] 141);have b:=η (⟨f,g⟩ :_/\_);clear f g
          go_wp2_with (at_builtin;(refine bU w.heap.size y rfl (.tmp 26) (.tmp 30) rfl d.out.1 d.out.2.1 d.out.2.2.1 d.out.2.2.2 rfl b.out.1 rfl (sR.lit wr 18 ((gk:Int)-11) 7 141) ω b.out.2.size ?_)
                       intro s d4 z e a r;have i:=η (⟨e,b.out.2.grown a b.out.2.size λq j=>(l.out.2.lt j).1⟩ :_/\_);clear e a r)
          go_roundg (gk-gk)
          case measure=>omega
          case rel=>exact⟨gk-gk,m+1,d4,s,_,σ,rfl,ω,ω,i.out.1,t.out gk ((gk:Int)-11) ω ω,i.out.2,rfl⟩
        · have f:=l.out.alloc (.cells #[.int .i64 18, .int .i64 127, .int .i64 7] 141);have g:=o.out.alloc o.out.size (.cells #[.int .i64 18, .int .i64 127, .int .i64 7] 141);have b:=η (⟨f,g⟩ :_/\_);clear f g
          go_wp2_with (at_builtin;(refine bU w.heap.size y rfl (.tmp 26) (.tmp 30) rfl d.out.1 d.out.2.1 d.out.2.2.1 d.out.2.2.2 rfl b.out.1 rfl (sR.lit wr 18 127 7 141) ω b.out.2.size ?_)
                       intro s d4 z e a r;have i:=η (⟨e,b.out.2.grown a b.out.2.size λq j=>(l.out.2.lt j).1⟩ :_/\_);clear e a r)
          go_roundg (gk-138)
          case measure=>omega
          case rel=>exact⟨gk-138,m+1,d4,s,_,by go_num,rfl,ω,ω,i.out.1,t.out 138 127 ω ω,i.out.2,rfl⟩
        · have f:=l.out.alloc (.cells #[.int .i64 18, .int .i64 127, .int .i64 7] 141);have g:=o.out.alloc o.out.size (.cells #[.int .i64 18, .int .i64 127, .int .i64 7] 141);have b:=η (⟨f,g⟩ :_/\_);clear f g
          go_wp2_with (at_builtin;(refine bU w.heap.size y rfl (.tmp 26) (.tmp 30) rfl d.out.1 d.out.2.1 d.out.2.2.1 d.out.2.2.2 rfl b.out.1 rfl (sR.lit wr 18 127 7 141) ω b.out.2.size ?_)
                       intro s d4 z e a r;have i:=η (⟨e,b.out.2.grown a b.out.2.size λq j=>(l.out.2.lt j).1⟩ :_/\_);clear e a r)
          go_roundg 0
          case measure=>omega
          case rel=>exact⟨0,m+1,d4,s,_,rfl,rfl,ω,ω,i.out.1,t.out 138 127 ω ω,i.out.2,rfl⟩
      · have K:¬(11:Int)<=(gk:Int):=ω;by_cases J:3<=gk
        · have C:(3:Int)<=(gk:Int):=ω;have p:=u.out;rw[vy J G]at p;have t:=η p;clear p u;have f:=l.out.alloc (.cells #[.int .i64 17, .int .i64 ((gk:Int)-3), .int .i64 3] 141);have g:=o.out.alloc o.out.size (.cells #[.int .i64 17, .int .i64 ((gk:Int)-3), .int .i64 3] 141);have b:=η (⟨f,g⟩ :_/\_);clear f g
          go_wp2_with (at_builtin;(refine bU w.heap.size y rfl (.tmp 42) (.tmp 46) rfl d.out.1 d.out.2.1 d.out.2.2.1 d.out.2.2.2 rfl b.out.1 rfl (sR.lit wr 17 ((gk:Int)-3) 3 141) ω b.out.2.size ?_)
                       intro s d4 z e a r;have i:=η (⟨e,b.out.2.grown a b.out.2.size λq j=>(l.out.2.lt j).1⟩ :_/\_);clear e a r)
          go_roundg 0
          case measure=>omega
          case rel=>exact⟨0,m+1,d4,s,_,rfl,rfl,ω,ω,i.out.1,by show _=_;rw[oh,List.append_nil];exact t.out,i.out.2,rfl⟩
        · have C:¬(3:Int)<=(gk:Int):=ω;have p:=u.out;rw[qC M ω]at p;have t:=η p;clear p u;have f:=l.out.alloc (.cells #[.int .i64 0, .int .i64 0, .int .i64 0] 141);have g:=o.out.alloc o.out.size (.cells #[.int .i64 0, .int .i64 0, .int .i64 0] 141);have b:=η (⟨f,g⟩ :_/\_);clear f g
          go_wp2_with (at_builtin;(refine bU w.heap.size y rfl (.tmp 10) (.tmp 13) rfl d.out.1 d.out.2.1 d.out.2.2.1 d.out.2.2.2 rfl b.out.1 rfl (sR.lit wr 0 0 0 141) ω b.out.2.size ?_)
                       intro s d4 z e a r;have i:=η (⟨e,b.out.2.grown a b.out.2.size λq j=>(l.out.2.lt j).1⟩ :_/\_);clear e a r)
          go_roundg (gk-1)
          case measure=>omega
          case rel=>exact⟨gk-1,m+1,d4,s,_,by go_num,rfl,ω,ω,i.out.1,by show _=_;rw[List.append_assoc];exact t.out,i.out.2,rfl⟩
    · have P:0<k:=ω;have Q:(k==0)=false:=by simpa using N
      by_cases J:3<=gk
      · have C:(3:Int)<=(gk:Int):=ω;have p:=u.out;rw[vx P J]at p;have t:Hid (∀(q:Nat) (x:Int),min gk 6=q->x=((q:Nat):Int)-3->(L++[⟨16,x,2⟩])++dg k (gk-q)=dg k v):=λq x j H=>by rw[H,<-j,List.append_assoc];exact p
        clear p u;have B:(gk<6/\(gk:Int)<6)\/(6<gk/\(6:Int)<(gk:Int))\/gk=6:=ω;rcases B with ⟨h,I⟩ | ⟨h,I⟩ | rfl
        · have f:=l.out.alloc (.cells #[.int .i64 16, .int .i64 ((gk:Int)-3), .int .i64 2] 141);have g:=o.out.alloc o.out.size (.cells #[.int .i64 16, .int .i64 ((gk:Int)-3), .int .i64 2] 141);have b:=η (⟨f,g⟩ :_/\_);clear f g
          go_wp2_with (at_builtin;(refine bU w.heap.size y rfl (.tmp 57) (.tmp 61) rfl d.out.1 d.out.2.1 d.out.2.2.1 d.out.2.2.2 rfl b.out.1 rfl (sR.lit wr 16 ((gk:Int)-3) 2 141) ω b.out.2.size ?_)
                       intro s d4 z e a r;have i:=η (⟨e,b.out.2.grown a b.out.2.size λq j=>(l.out.2.lt j).1⟩ :_/\_);clear e a r)
          go_roundg (gk-gk)
          case measure=>omega
          case rel=>exact⟨gk-gk,m+1,d4,s,_,σ,rfl,ω,ω,i.out.1,t.out gk ((gk:Int)-3) ω ω,i.out.2,rfl⟩
        · have f:=l.out.alloc (.cells #[.int .i64 16, .int .i64 3, .int .i64 2] 141);have g:=o.out.alloc o.out.size (.cells #[.int .i64 16, .int .i64 3, .int .i64 2] 141);have b:=η (⟨f,g⟩ :_/\_);clear f g
          go_wp2_with (at_builtin;(refine bU w.heap.size y rfl (.tmp 57) (.tmp 61) rfl d.out.1 d.out.2.1 d.out.2.2.1 d.out.2.2.2 rfl b.out.1 rfl (sR.lit wr 16 3 2 141) ω b.out.2.size ?_)
                       intro s d4 z e a r;have i:=η (⟨e,b.out.2.grown a b.out.2.size λq j=>(l.out.2.lt j).1⟩ :_/\_);clear e a r)
          go_roundg (gk-6)
          case measure=>omega
          case rel=>exact⟨gk-6,m+1,d4,s,_,by go_num,rfl,ω,ω,i.out.1,t.out 6 3 ω ω,i.out.2,rfl⟩
        · have f:=l.out.alloc (.cells #[.int .i64 16, .int .i64 3, .int .i64 2] 141);have g:=o.out.alloc o.out.size (.cells #[.int .i64 16, .int .i64 3, .int .i64 2] 141);have b:=η (⟨f,g⟩ :_/\_);clear f g
          go_wp2_with (at_builtin;(refine bU w.heap.size y rfl (.tmp 57) (.tmp 61) rfl d.out.1 d.out.2.1 d.out.2.2.1 d.out.2.2.2 rfl b.out.1 rfl (sR.lit wr 16 3 2 141) ω b.out.2.size ?_)
                       intro s d4 z e a r;have i:=η (⟨e,b.out.2.grown a b.out.2.size λq j=>(l.out.2.lt j).1⟩ :_/\_);clear e a r)
          go_roundg (0)
          case measure=>omega
          case rel=>exact⟨0,m+1,d4,s,_,rfl,rfl,ω,ω,i.out.1,t.out 6 3 ω ω,i.out.2,rfl⟩
      · have C:¬(3:Int)<=(gk:Int):=ω;have p:=u.out;rw[qC M ω]at p;have t:=η p;clear p u;have f:=l.out.alloc (.cells #[.int .i64 k, .int .i64 0, .int .i64 0] 141);have g:=o.out.alloc o.out.size (.cells #[.int .i64 k, .int .i64 0, .int .i64 0] 141);have b:=η (⟨f,g⟩ :_/\_);clear f g
        go_wp2_with (at_builtin;(refine bU w.heap.size y rfl (.tmp 10) (.tmp 13) rfl d.out.1 d.out.2.1 d.out.2.2.1 d.out.2.2.2 rfl b.out.1 rfl (sR.lit wr k 0 0 141) ω b.out.2.size ?_)
                     intro s d4 z e a r;have i:=η (⟨e,b.out.2.grown a b.out.2.size λq j=>(l.out.2.lt j).1⟩ :_/\_);clear e a r)
        go_roundg (gk-1)
        case measure=>omega
        case rel=>exact⟨gk-1,m+1,d4,s,_,by go_num,rfl,ω,ω,i.out.1,by show _=_;rw[List.append_assoc];exact t.out,i.out.2,rfl⟩
end Go.Proofs.YtddhegejmkgmjaaGreat
