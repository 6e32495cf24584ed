/-
  part
-/
import Derived.Test.YtddhegejmkgmjaaGreatPk26
import Derived.Test.YtddhegejmkgmjaaGreatOwnO
set_option linter.unusedVariables false
set_option maxRecDepth 100000
set_option maxHeartbeats 4000000
namespace Go.Proofs.YtddhegejmkgmjaaGreat
open Go.RowKit
structure ZR where
 m:Nat
 A:Option Addr
 n:Nat
 cp:Nat
 l:List Int
 p:Option Addr
 xm:Bool
 KB:Bool
 sum:Int
 en:Bool
 err:Int
def zF (Z:ZR):Nat->Value
 | 0=> .int .i64 Z.m
 | 1=> .slice Z.A Z.n Z.cp
 | 2=> .pointer Z.p
 | 3=> .bool Z.xm
 | 4=> .bool Z.KB
 | 5=> .int .u32 Z.sum
 | 6=> .bool Z.en
 | _=> .int .i64 Z.err
theorem yQ {P:Nat->Prop} (e:P 0) (d:P 1) (c:P 2) (b:P 3) (h4:P 4) (h5:P 5) (h6:P 6) (h7:P 7):∀j,j<8->P j:=λj a=>by
 obtain rfl | rfl | rfl | rfl | rfl | rfl | rfl | rfl:j=0\/j=1\/j=2\/j=3\/j=4\/j=5\/j=6\/j=7:=ω
 all_goals assumption
def zX (g:Nat) (c:Nat->Nat) (A:Option Addr):Nat->Prop:=λk=>k=g\/aa A=some k\/c k≠0
def Ext (b0:Nat) (w w':World) (E E':Nat->Prop):Prop:=Below b0 w w'/\aq w w' E/\∀k,E' k->E k\/w.heap.size<=k
structure mq (w:World) (b0 g:Nat) (c:Nat->Nat) (Z:ZR):Prop where
 cell:Ar w g 8 (zF Z)
 lo:b0<=g
 own:bP .u8 w b0 5 Z.A Z.n Z.cp Z.l
 fC:∀v∈Z.l,0<=v/\v<256
 cg:c g=0
 cA:∀k,aa Z.A=some k->k≠g/\c k=0
 cb:∀k,c k≠0->b0<=k/\k<w.heap.size
 sm:0<=Z.sum/\Z.sum<4294967296
def wI (w:World) (b0:Nat) (c:Nat->Nat) (x a:List Int) (Z:ZR):Prop:=
 (Z.p=none/\Z.xm=false/\Z.KB=false/\Z.l=x/\a=[]/\∀k,c k=0)\/
 (∃b gd M S,Z.p=some ⟨gd,0,none⟩/\b0<=b/\dU w b gd c M S/\m7 x=0/\
   ((Z.xm=false/\Z.KB=false/\Z.A=none/\Z.n=0/\Z.cp=0/\Z.l=[]/\ZIn (ij x Z.m) (a++M.out) M S/\M.out.length<=70000)\/
    (Z.xm=true/\(ij x Z.m).2=8/\a=(ij x Z.m).1.all/\∃R,bV R=(ij x Z.m).1.x/\(∀v∈R,0<=v/\v<256)/\((Z.KB=false/\Z.l=R)\/(Z.KB=true/\4<=R.length/\sU R=Z.sum/\Z.l=R.drop 4)))))
section
variable {w w' w'':World} {b0 g:Nat} {c c':Nat->Nat} {Z Z':ZR} {x a:List Int} {E E' E'':Nat->Prop}
theorem Ext.refl (b0:Nat) (w:World) (E:Nat->Prop):Ext b0 w w E E:= ⟨Below.refl _ _,aq.refl _ _,λk h=> .inl h⟩
theorem Ext.trans (h:Ext b0 w w' E E') (b:Ext b0 w' w'' E' E''):Ext b0 w w'' E E'':=
 ⟨h.1.trans b.1,h.2.1.trans b.2.1 h.2.2,λk c=>by
   rcases b.2.2 k c with a | a
   · exact h.2.2 k a
   · exact .inr (Nat.le_trans h.1.size a)⟩
theorem Ext.of (a:aq w w' E) (d:∀k,E k->b0<=k) (c:b0<=w.heap.size) (b:∀k,E' k->E k\/w.heap.size<=k):Ext b0 w w' E E':= ⟨a.below d c,a,b⟩
theorem mq.Ei (h:mq w b0 g c Z):∀k,zX g c Z.A k->b0<=k:=λk a=>by
 rcases a with rfl | a | a
 · exact h.lo
 · exact(h.own.lt a).1
 · exact(h.cb k a).1
theorem mq.xlt (h:mq w b0 g c Z):∀k,zX g c Z.A k->k<w.heap.size:=λk a=>by
 rcases a with rfl | a | a
 · exact h.cell.lt
 · exact(h.own.lt a).2
 · exact(h.cb k a).2
theorem mq.low (h:mq w b0 g c Z):b0<=w.heap.size:=Nat.le_trans h.lo (Nat.le_of_lt h.cell.lt)
theorem mq.cells (h:mq w b0 g c Z):w.cell? ⟨g,0,none⟩ =some (.int .i64 Z.m)/\w.cell? ⟨g,1,none⟩ =some (.slice Z.A Z.n Z.cp)/\w.cell? ⟨g,2,none⟩ =some (.pointer Z.p)/\w.cell? ⟨g,3,none⟩ =some (.bool Z.xm)/\w.cell? ⟨g,4,none⟩ =some (.bool Z.KB)/\
  w.cell? ⟨g,5,none⟩ =some (.int .u32 Z.sum)/\w.cell? ⟨g,6,none⟩ =some (.bool Z.en)/\w.cell? ⟨g,7,none⟩ =some (.int .i64 Z.err):=
 ⟨h.cell.cell ω,h.cell.cell ω,h.cell.cell ω,h.cell.cell ω,h.cell.cell ω,h.cell.cell ω,h.cell.cell ω,h.cell.cell ω⟩
theorem mq.Q9 (h:mq w b0 g c Z) {i:Nat} (hi:i<8):w.frozen? ⟨g,i,none⟩ =false:=h.cell.frozen' hi
theorem mq.turn (h:mq w b0 g c Z) (b:aq w w' (λk=>k=g)) (i:Ar w' g 8 (zF Z')) (hA:Z'.A=Z.A/\Z'.n=Z.n/\Z'.cp=Z.cp/\Z'.l=Z.l) (f:0<=Z'.sum/\Z'.sum<4294967296):mq w' b0 g c Z':=by
 obtain⟨d,m,j,h4⟩ :=hA;exact⟨i,h.lo,by rw[d,m,j,h4];exact h.own.cv b (λk a e=>(h.cA k a).1 e),by rw[h4];exact h.fC,h.cg,by rw[d];exact h.cA,λk a=> ⟨(h.cb k a).1,Nat.lt_of_lt_of_le (h.cb k a).2 b.size⟩,f⟩
theorem mq.cv {F:Nat->Prop} (h:mq w b0 g c Z) (d:aq w w' F) (hF:∀k,F k->k≠g/\aa Z.A≠some k) (b:∀k,c' k≠0->b0<=k/\k<w'.heap.size) (f:c' g=0) (hA:∀k,aa Z.A=some k->c' k=0):mq w' b0 g c' Z:=
 ⟨d.ar h.cell (λe=>(hF g e).1 rfl),h.lo,h.own.cv d (λk a e=>(hF k e).2 a),h.fC,f,λk a=> ⟨(h.cA k a).1,hA k a⟩,b,h.sm⟩
theorem mq.keeps (h:mq w b0 g c Z) (a:Below w.heap.size w w'):mq w' b0 g c Z:=
 ⟨h.cell.keeps a,h.lo,h.own.keeps a,h.fC,h.cg,h.cA,λk b=> ⟨(h.cb k b).1,Nat.lt_of_lt_of_le (h.cb k b).2 a.size⟩,h.sm⟩
theorem wI.keeps (h:wI w b0 c x a Z) (b:Below w.heap.size w w'):wI w' b0 c x a Z:=by
 rcases h with h | ⟨g,gd,M,S,f,e,d,h4⟩
 · exact .inl h
 · exact .inr ⟨g,gd,M,S,f,e,d.keeps b,h4⟩
theorem wI.aside {F:Nat->Prop} (h:wI w b0 c x a Z) (b:aq w w' F) (hF:∀k,F k->c k=0) (d:Z'.m=Z.m/\Z'.A=Z.A/\Z'.n=Z.n/\Z'.cp=Z.cp/\Z'.l=Z.l/\Z'.p=Z.p/\Z'.xm=Z.xm/\Z'.KB=Z.KB/\Z'.sum=Z.sum):wI w' b0 c x a Z':=by
 obtain⟨v,u,t,s,r,q,o,j,i⟩ :=d;unfold wI at h⊢;rw[v,u,t,s,r,q,o,j,i];rcases h with h | ⟨y,gd,M,S,g,f,e,h4⟩
 · exact .inl h
 · exact .inr ⟨y,gd,M,S,g,f,e.aside b hF,h4⟩
end
def wj (w:World) (b0 g:Nat) (E:Nat->Prop) (x a:List Int) (m:Nat) (en hd:Bool):Prop:=
 ∃c Z,mq w b0 g c Z/\wI w (g+1) c x a Z/\Z.m=m/\Z.en=en/\Z.sum=bC 1 a/\E=zX g c Z.A/\(Z.err=0\/(Z.err=zE x m en/\a=dV x m/\(Z.err=5->en=true)))/\(hd=true->Z.p=none/\Z.err=0)
section
variable {w w':World} {b0 g:Nat} {E:Nat->Prop} {x a:List Int} {m:Nat} {en hd:Bool}
theorem wj.keeps (h:wj w b0 g E x a m en hd) (b:Below w.heap.size w w'):wj w' b0 g E x a m en hd:=by
 obtain⟨c,Z,f,e,d⟩ :=h;exact⟨c,Z,f.keeps b,e.keeps b,d⟩
theorem wj.low (h:wj w b0 g E x a m en hd):b0<=w.heap.size:=by obtain⟨c,Z,b, -⟩ :=h;exact b.low
theorem wj.xlt (h:wj w b0 g E x a m en hd):∀k,E k->b0<=k/\k<w.heap.size:=by
 obtain⟨c,Z,d,_,_,_,_,rfl,_⟩ :=h;exact λk b=> ⟨d.Ei k b,d.xlt k b⟩
end
theorem vY (w:World) (most:Int) (m:Nat) (f:(m:Int)=max most 0):
  Calls Tryz.prog 11 #[.int .i64 most] w λe w'=>∃g E,e= .returned (.pointer (some ⟨g,0,none⟩))/\wj w' w.heap.size g E [] [] m false true/\Below w.heap.size w w':=by
 have h:Hid (∀v:Int,v=(m:Int)->∃g E,Ending.returned (.pointer (some ⟨w.heap.size,0,none⟩))= .returned (.pointer (some ⟨g,0,none⟩))/\
   wj (w.alloc (.cells #[.int .i64 v, .slice none 0 0, .pointer none, .bool false, .bool false, .int .u32 1, .bool false, .int .i64 0] 58)) w.heap.size g E [] [] m false true/\
   Below w.heap.size w (w.alloc (.cells #[.int .i64 v, .slice none 0 0, .pointer none, .bool false, .bool false, .int .u32 1, .bool false, .int .i64 0] 58))):=by
  rintro v rfl
  refine⟨_,_,rfl, ⟨λ_=>0, ⟨m,none,0,0,[],none,false,false,1,false,0⟩, ⟨Ar.new w _ _ rfl (yQ rfl rfl rfl rfl rfl rfl rfl rfl),Nat.le_refl _,bP.br,λv hv=>by simp at hv,rfl,λk b=>by simp [aa]at b,λk b=>absurd rfl b,by show(0:Int)<=1/\(1:Int)<_;omega⟩,
   .inl ⟨rfl,rfl,rfl,rfl,rfl,λ_=>rfl⟩,rfl,rfl,by show(1:Int)=bC 1 [];decide,rfl, .inl rfl,λ_=> ⟨rfl,rfl⟩⟩,(Below.refl _ w).alloc (Nat.le_refl _) _⟩
 have c:(most<0/\m=0)\/(0<most/\(m:Int)=most)\/(most=0/\m=0):=ω;clear f;rcases c with ⟨d,a⟩ | ⟨d,a⟩ | ⟨d,a⟩
 all_goals
  have i:=η a;clear a
  try subst d
  go_enter Tryz.func11,Tryz.ntmps11
  go_wp2_with fail
  go_ret
  exact h.out _ (by have:=i.out;omega)
theorem vX (w:World) (b0 g:Nat) (E:Nat->Prop) (x a:List Int) (m:Nat) (hd:Bool) (h:wj w b0 g E x a m false hd) (o:hd=true):
  Calls Tryz.prog 13 #[.pointer (some ⟨g,0,none⟩)] w λe w'=>e= .returned (.tuple #[])/\wj w' b0 g E x a m true hd/\Ext b0 w w' E E:=by
 obtain⟨c,Z,b,l,q,h4,h5,rfl,h6,h7⟩ :=h;obtain⟨hp,j⟩ :=h7 o;obtain⟨-, -, -, -, -, -,s, -⟩ :=b.cells;have r:=b.Q9 (i:=6) ω;have f:aq w (w.setCell ⟨g,6,none⟩ (.bool true)) (λk=>k=g):=aq.setCell (S:=λk=>k=g) (aq.refl w _) (p:= ⟨g,6,none⟩) (.inl rfl) _
 have n:Hid (wj (w.setCell ⟨g,6,none⟩ (.bool true)) b0 g (zX g c Z.A) x a m true hd/\Ext b0 w (w.setCell ⟨g,6,none⟩ (.bool true)) (zX g c Z.A) (zX g c Z.A)):=by
  refine⟨⟨c,{ Z with en:=true },b.turn f ((b.cell.aQ (i:=6) ω _).congr (yQ rfl rfl rfl rfl rfl rfl rfl rfl)) ⟨rfl,rfl,rfl,rfl⟩ b.sm,l.aside f (λk d=>by rw[d];exact b.cg) ⟨rfl,rfl,rfl,rfl,rfl,rfl,rfl,rfl,rfl⟩,q,rfl,h5,rfl, .inl j,λ_=> ⟨hp,j⟩⟩,Ext.of (f.more λk d=> .inl d) b.Ei b.low λk d=> .inl d⟩
 clear l h5 h6 f;go_enter Tryz.func13,Tryz.ntmps13
 go_wp2_with fail
 go_end0
 exact⟨rfl,n.out⟩
theorem pK (w:World) (b0 g:Nat) (E:Nat->Prop) (x:List Int) (m:Nat) (h:wj w b0 g E x [] m false true) (Bd k cp:Nat) (C:Option Addr) (b:List Int) (O:aT .u8 w Bd C k b) (K:∀v∈b,0<=v/\v<256) (B:x.length+b.length<=100000000000):
  Calls Tryz.prog 12 #[.pointer (some ⟨g,0,none⟩), .slice C k cp] w λe w'=>∃E',e= .returned (.tuple #[])/\wj w' b0 g E' (x++b) [] m false true/\Ext b0 w w' E E':=by
 obtain⟨i0,hi,u,t,s⟩ :=info_parts ez;have Hi:=η hi;have dM:=η u;have cV:=η t;have dN:=η s;obtain⟨c,Z,f,h2,V,h4,h5,rfl,h6,h7⟩ :=h;obtain⟨hp,R⟩ :=h7 rfl;rcases h2 with ⟨-,q2,Y,H, -,F⟩ | ⟨bI,gd,M,S,N,_⟩
 case inr=>rw[hp]at N;cases N
 obtain⟨-,k1,k2,k3, -, -,k6, -⟩ :=f.cells;rw[hp]at k2;rw[h4]at k6;have G:=f.own;have J:=G.rd.1;rw[H]at J G;have mg:=O.1;have P:=f.low
 have Q:Hid (∀j c2 w2,bP .u8 w2 b0 5 j (Z.n+k) c2 (x++b)->w.grownBy w2 (aa Z.A)->(aa j=aa Z.A\/aa j=some w.heap.size)->
   ∃E',wj (w2.setCell ⟨g,1,none⟩ (.slice j (Z.n+k) c2)) b0 g E' (x++b) [] m false true/\Ext b0 w (w2.setCell ⟨g,1,none⟩ (.slice j (Z.n+k) c2)) (zX g c Z.A) E'):=by
  intro j c2 w2 I o L
  have oT:∀q,aa j=some q->aa Z.A=some q\/w.heap.size<=q:=λq a=>by
   rcases L with e | e
   · exact .inl (e▸a)
   · rw[e]at a;injection a with a;exact .inr ω
  have y:∀q,aa j=some q->q≠g:=λq a=>by
   rcases oT q a with e | e
   · exact(f.cA q e).1
   · have:=f.cell.lt;omega
  have D:aq w w2 (λq=>aa Z.A=some q):=(aq.refl w _).grown o λq a=> .inl a
  have im:aq w (w2.setCell ⟨g,1,none⟩ (.slice j (Z.n+k) c2)) (zX g c Z.A):=(D.more λq a=> .inr (.inl a)).setCell (p:= ⟨g,1,none⟩) (.inl (.inl rfl)) _;refine⟨zX g c j, ⟨c,{ Z with A:=j,n:=Z.n+k,cp:=c2,l:=x++b }, ⟨?_,f.lo,I.far (p:= ⟨g,1,none⟩) (λe=>y g e rfl) _, ?_,f.cg,λq a=> ⟨y q a,F q⟩,λq a=>absurd (F q) a,f.sm⟩, .inl ⟨hp,q2,Y,rfl,rfl,F⟩,V,h4,h5,rfl, .inl R,λ_=> ⟨hp,R⟩⟩,Ext.of im f.Ei P λq a=> ?_⟩
  · exact((D.ar f.cell (λe=>(f.cA g e).1 rfl)).aQ (i:=1) ω _).congr (yQ rfl rfl rfl rfl rfl rfl rfl rfl)
  · intro v hv;rcases List.mem_append.1 hv with hv | hv
    · exact f.fC v (by rw[H];exact hv)
    · exact K v hv
  · rcases a with a | a | a
    · exact .inl (.inl a)
    · rcases oT q a with e | e
      · exact .inl (.inr (.inl e))
      · exact .inr e
    · exact absurd (F q) a
 have r:=f.cell;have T:∀q,aa Z.A=some q->q≠g:=λq a=>(f.cA q a).1
 obtain⟨A,hA⟩ :=ν (Z.A);obtain⟨n,z⟩ :=ν (Z.n);obtain⟨d,hd⟩ :=ν (Z.cp);rw[hA,z,hd]at G;rw[hA,z,hd]at k1;rw[hA,z]at Q;rw[hA]at T;rw[z]at J;have YX:n+k<=100000000000:=ω;have HA:=η hA;clear f V h5 h6 h7 hi u t s H J mg B hA z hd;go_enter Tryz.func12,Tryz.ntmps12
 go_wp2_with (at_builtin;(refine Ef .u8 b0 5 i0 1 rfl (.tmp 34) (.tmp 35) _ rfl Tryz.underlying26 Hi.out dM.out cV.out dN.out rfl G rfl O ω ω P ?_)
              intro j c2 w2 I o L;have U:=((aq.refl w (λq=>aa A=some q)).grown o λq a=> .inl a).ar r (λe=>T g e rfl);have z1:=U.frozen' (i:=1) ω;have ab:=U.cell (i:=1) ω)
 obtain⟨E',X,W⟩ :=Q.out j c2 w2 I o L;go_end0
 exact⟨E',rfl,X,by rw[HA.out];exact W⟩
theorem u8_and15:∀V:Fin 256,bits .and .u8 (V.val:Int) 15=(V.val:Int)%16:=by decide+kernel
theorem PQ:∀V:Fin 256,bits .and .u8 (V.val:Int) 32=32*((V.val:Int)/32%2):=by decide+kernel
theorem a02 {v:Int} (h:0<=v/\v<256):bits .and .u8 v 15=v%16:=by
 obtain⟨n,rfl⟩ :=Int.eq_ofNat_of_zero_le h.1;exact u8_and15 ⟨n,ω⟩
theorem a04 {v:Int} (h:0<=v/\v<256):bits .and .u8 v 32=32*(v/32%2):=by
 obtain⟨n,rfl⟩ :=Int.eq_ofNat_of_zero_le h.1;exact PQ ⟨n,ω⟩
theorem or8 {u v:Int} (d:0<=u/\u<256) (hv:0<=v/\v<256):bits .or .i64 (u*256) v=u*256+v:=by
 obtain⟨a,rfl⟩ :=Int.eq_ofNat_of_zero_le d.1;obtain⟨b,rfl⟩ :=Int.eq_ofNat_of_zero_le hv.1;have c:bits .or .i64 (((a*256:Nat):Int)) ((b:Nat):Int)=(((a*256)||| b:Nat):Int):=ve _ _ ω ω;have e:a*256=a <<< 8:=by rw[Nat.shiftLeft_eq]
 rw[e,<-Nat.shiftLeft_add_eq_or_of_lt (show b<2 ^ 8 by omega)]at c;rw[Nat.shiftLeft_eq]at c;have f:((a:Int))*256=((a*2 ^ 8:Nat):Int):=ω;rw[f,c];omega
def yF (w:World) (b0 g:Nat) (E:Nat->Prop) (x:List Int) (m:Nat) (en:Bool) (e:Ending) (w':World):Prop:=
 (m7 x≠0/\e= .returned (.int .i64 (m7 x))/\∃q,w'=w.drewN q)\/(m7 x=0/\e= .returned (.int .i64 0)/\∃c Z,mq w' b0 g c Z/\wI w' (g+1) c x [] Z/\Z.m=m/\Z.en=en/\Z.sum=1/\Z.err=0/\Z.p≠none/\Z.xm=false/\Ext b0 w w' E (zX g c Z.A))
theorem nZ {x:List Int} {i:Nat} (h:i<x.length):ix x i∈x:=by
 have e:ix x i=x[i]:=by simp [ix,h]
 rw[e];exact List.getElem_mem h
theorem Tj:m7 []=5:=δ
theorem IZ {x:List Int} (h:1<=x.length) (a:ix x 0%16≠8\/7<ix x 0/16):m7 x=2:=if_pos ⟨h,a⟩
theorem Tk {x:List Int} (h:x.length=1) (b:ix x 0%16=8) (a:¬7<ix x 0/16):m7 x=5:=by
 unfold m7;rw[if_neg (by rintro⟨_,h | h⟩ <;> omega),if_pos ω]
theorem Ej {x:List Int} (h:2<=x.length) (b:ix x 0%16=8) (a:¬7<ix x 0/16) (h4:(256*ix x 0+ix x 1)%31≠0\/ix x 1/32%2≠0):m7 x=2:=by
 unfold m7;rw[if_neg (by rintro⟨_,h | h⟩ <;> omega),if_neg ω,if_pos h4]
theorem Yl {x:List Int} (h:2<=x.length) (b:ix x 0%16=8) (a:¬7<ix x 0/16) (h4:(256*ix x 0+ix x 1)%31=0) (h5:ix x 1/32%2=0):m7 x=0:=by
 unfold m7;rw[if_neg (by rintro⟨_,h | h⟩ <;> omega),if_neg ω,if_neg (by rintro(h | h) <;> omega)]
theorem Hb (w:World) (b0 g:Nat) (c:Nat->Nat) (Z:ZR) (x:List Int) (L:mq w b0 g c Z) (hp:Z.p=none) (qf:Z.xm=false) (zS:Z.KB=false) (O:Z.l=x) (ch:∀k,c k=0) (eZ:Z.err=0) (hm:Z.m<=1000000000) (rI:Z.sum=1) (lH:x.length<=100000000000):
  Calls Tryz.prog 44 #[.pointer (some ⟨g,0,none⟩)] w (yF w b0 g (zX g c Z.A) x Z.m Z.en):=by
 obtain⟨i0,hi,aS,ah,aI⟩ :=info_parts ez;have Hi:=η hi;have cV:=η ah;clear hi aS ah aI;obtain⟨k0,k1,k2, -⟩ :=L.cells;have y:=L.own;have F:=y.rd.1;have f:=L.fC;rw[O]at F y f;rw[hp]at k2;obtain⟨A,hA⟩ :=ν (Z.A);obtain⟨n,H⟩ :=ν (Z.n);obtain⟨d,hd⟩ :=ν (Z.cp);rw[hA,H,hd]at k1 y;rw[H]at F;have kT:=η F;have rE:(n:Int)<=100000000000/\(0:Int)<=n:=ω;have V:=η (⟨hA,H,hd⟩ :_/\_/\_);have bs:=η O;have bad:Hid (∀v,m7 x=v->v≠0->∀q,yF w b0 g (zX g c Z.A) x Z.m Z.en (.returned (.int .i64 v)) (w.drewN q)):=λv hv h0 q=> .inl ⟨by rw[hv];exact h0,by rw[hv],q,rfl⟩
 by_cases X:n=0
 · subst X;have hx:x=[]:=List.eq_nil_of_length_eq_zero F.symm;have u:=η (bad.out 5 (by rw[hx];exact Tj) δ 0);clear F O f hA H hd bad L y hx;go_enter Tryz.func44,Tryz.ntmps44
   go_wp2_with fail
   go_ret
   exact u.out
 · obtain⟨gA,off,rfl⟩ :=y.addr ω;have o:1<=x.length:=ω;have e0:=y.cell (i:=0) ω;obtain⟨C,N⟩ :=ν (ix x 0);have am:0<=C/\C<256:=by rw[<-N];exact f _ (nZ o)
   rw[N]at e0;have cj:w.cell? ⟨gA,off,none⟩ =some (.int .u8 C):=e0;have wy:=a02 am;have bS:(0:Int)<(n:Int)/\0<n:=ω;have z:=η N;clear N;by_cases G:C%16=8
   · have be:(C%16==8)=true:=by simpa using G
     by_cases r:7<C/16
     · have u:=η (bad.out 2 (IZ o (by rw[z.out];exact .inr r)) δ 0);clear F O f hA H hd bad L y X o;go_enter Tryz.func44,Tryz.ntmps44
       go_wp2_with fail
       go_ret
       exact u.out
     · have cc:decide (7<C/16)=false:=decide_eq_false r;by_cases jh:n=1
       · subst jh;have u:=η (bad.out 5 (Tk ω (by rw[z.out];exact G) (by rw[z.out];exact r)) δ 0);clear F O f hA H hd bad L y X o r;go_enter Tryz.func44,Tryz.ntmps44
         go_wp2_with fail
         go_ret
         exact u.out
       · have t:2<=x.length:=ω;have e1:=y.cell (i:=1) ω;obtain⟨v1,mi⟩ :=ν (ix x 1);have al:0<=v1/\v1<256:=by rw[<-mi];exact f _ (nZ ω)
         rw[mi]at e1;have bo:=a04 al;have sA:=or8 am al;have bI:¬(n:Int)<2/\(1:Int)<(n:Int)/\1<n:=ω;have bG:decide ((n:Int)<2)=false:=decide_eq_false ω;have bB:¬n<2:=ω;have Tx:=η mi;have HG:=η (⟨G,r⟩ :_/\_);obtain⟨D,hD⟩ :=ν (C*256+v1);obtain⟨Q,hQ⟩ :=ν (v1/32%2);have U:=η (⟨hD,hQ⟩ :_/\_);have bn:Q=0\/Q=1:=ω;have ci:0<=D/\D<65536:=ω;rw[hD]at sA;rw[hQ]at bo;have jD:IntKind.i64.wrap (C*256)=C*256:=IntWalk.i64_in _ ω;clear mi hD hQ;by_cases oW:D%31=0
         · have bi:(D%31==0)=true:=by simpa using oW
           rcases bn with rfl | rfl
           · have hz:m7 x=0:=Yl t (by rw[z.out];exact HG.out.1) (by rw[z.out];exact HG.out.2) (by rw[z.out,Tx.out];have:=U.out.1;omega) (by rw[Tx.out];exact U.out.2);have ap:=η hz;have lG:=bE (P:=Tryz.prog) 26 5 Tryz.underlying26 Hi.out cV.out (some ⟨gA,off,none⟩) n d (j:=2) ω;rw[show((2:Nat):Int)=2 from rfl]at lG;obtain⟨J,hJ⟩ :=ν (n-2);rw[hJ]at lG;have HJ:=η hJ;have H1:=η L;have HO:=η y;have bt:=η f;have bp:=η t;clear F O f H hd bad X o r jh t hz hJ;go_enter Tryz.func44,Tryz.ntmps44
             go_wp2_with fail
             go_quiet (fail)
             have K:mq (w.drewN nq) b0 g c Z:=H1.out.keeps ((aq.drewN (aq.refl w (λ_=>False)) nq).below (λ_ h=>h.elim) (Nat.le_refl _));have W:=HO.out.drewN nq;have RY:Hid (Ext b0 w (w.drewN nq) (zX g c Z.A) (zX g c Z.A)):= ⟨(aq.drewN (aq.refl w (λ_=>False)) nq).below (λ_ h=>h.elim) H1.out.low,aq.drewN (aq.refl _ _) nq,λk b=> .inl b⟩;have ad:(w.drewN nq).cell? ⟨g,0,none⟩ =some (.int .i64 Z.m):=k0;revert K W RY ad;generalize w.drewN nq=wq;intro K W RY ad;have bd:=K.cell.lt;have bb:g+1<=wq.heap.size:=bd
             go_wp2_with fail
             refine(MD wq Z.m Z.m ω).mono ?_;rintro e w1 ⟨gd,c1,M,S,rfl,hM,Y,W8,T,R,s⟩;have YD:=K.keeps Y
             have Wv:c1 g=0:=by
              by_cases e:c1 g=0
              · exact e
              · have:=(hM.cb g e).1;omega
             have z2:=YD.Q9 (i:=2) ω;obtain⟨-, -,aE, -⟩ :=YD.cells;have JW:aq w1 (w1.setCell ⟨g,2,none⟩ (.pointer (some ⟨gd,0,none⟩))) (λk=>k=g):=aq.setCell (S:=λk=>k=g) (aq.refl w1 _) (p:= ⟨g,2,none⟩) (.inl rfl) _;have I:mq (w1.setCell ⟨g,2,none⟩ (.pointer (some ⟨gd,0,none⟩))) b0 g c { Z with p:=some ⟨gd,0,none⟩ }:=YD.turn JW ((YD.cell.aQ (i:=2) ω _).congr (yQ rfl rfl rfl rfl rfl rfl rfl rfl)) ⟨rfl,rfl,rfl,rfl⟩ YD.sm;have wM:=hM.aside JW (λk b=>by rw[b];exact Wv);have JV:Hid (aq wq (w1.setCell ⟨g,2,none⟩ (.pointer (some ⟨gd,0,none⟩))) (λk=>k=g)):=aq.setCell (S:=λk=>k=g) (aq.aB Y) (p:= ⟨g,2,none⟩) (.inl rfl) _;clear YD hM JW Y W
             go_upto_region 7 with fail
             revert I wM JV;generalize w1.setCell ⟨g,2,none⟩ (.pointer (some ⟨gd,0,none⟩))=w2;intro I wM JV;obtain⟨-,ac,ab, -⟩ :=I.cells;replace ac:w2.cell? ⟨g,1,none⟩ =some (.slice (some ⟨gA,off,none⟩) n d):=by rw[ac,<-V.out.1,<-V.out.2.1,<-V.out.2.2]
             replace ab:w2.cell? ⟨g,2,none⟩ =some (.pointer (some ⟨gd,0,none⟩)):=ab
             have E:bP .u8 w2 b0 5 (some ⟨gA,off,none⟩) n d x:=by
              have h:=I.own;rw[show({ Z with p:=some ⟨gd,0,none⟩ }:ZR).l=x from bs.out,show({ Z with p:=some ⟨gd,0,none⟩ }:ZR).A=some ⟨gA,off,none⟩ from V.out.1,show({ Z with p:=some ⟨gd,0,none⟩ }:ZR).n=n from V.out.2.1,show({ Z with p:=some ⟨gd,0,none⟩ }:ZR).cp=d from V.out.2.2]at h;exact h
             have hcut:=(E.cut (j:=2) (by have:=kT.out;have:=bp.out;omega)).rd;rw[HJ.out]at hcut;have Uc:aT .u8 w2.drew w2.heap.size (bY (some ⟨gA,off,none⟩) d 2) J (x.drop 2):=hcut;have ao:av w2 c1 w2.drew wq.heap.size gd M S:=wM.refl.drew;have an:=Jv ao w2.heap.size J (d-2) _ (x.drop 2) Uc (Nat.le_refl _) (λv hv=>bt.out v (List.mem_of_mem_drop hv)) (by rw[W8,List.length_drop];simp;omega);have QL:=η an;have Va:=η wM.refl;have aC:=η (⟨W8,T,R,s⟩ :_/\_/\_/\_);clear an wM E W8 T R s aE z2 ao Uc hcut
             go_wp2_with fail
             go_region_law
              ((go_simp;go_at_call 25;(refine QL.out.mono ?_))
               rintro e w5 ⟨A5,n5,d5,rfl,c5,JN,zu⟩;have dH:=zu.2.1.ar I.cell (λe=>e Wv);have bv:=dH.frozen' (i:=1) ω;have bx:=dH.cell (i:=1) ω)
             all_goals
              have ca:b0<=w2.heap.size:=I.low
              have aA:Hid (yF w b0 g (zX g c (some ⟨gA,off,none⟩)) x Z.m Z.en (.returned (.int .i64 0)) (w5.setCell ⟨g,1,none⟩ (.slice none 0 0))):=by
               rw[<-V.out.1];have bk:aq w5 (w5.setCell ⟨g,1,none⟩ (.slice none 0 0)) (λk=>k=g):=aq.setCell (S:=λk=>k=g) (aq.refl w5 _) (p:= ⟨g,1,none⟩) (.inl rfl) _;have zH:c5 g=0:=by rw[zu.2.2 g I.cell.lt];exact Wv
               have bl:∀k,c1 k≠0->wq.heap.size<=k:=λk b=>by
                have:=Va.out;obtain⟨c9,Na,uy⟩ :=this;rcases Nat.lt_or_ge k w2.heap.size with h | h
                · exact(Na.cb k (by rw[uy.2.2 k h];exact b)).1
                · exact Nat.le_trans JV.out.size h
               refine .inr ⟨ap.out,rfl,c5,{ Z with p:=some ⟨gd,0,none⟩,A:=none,n:=0,cp:=0,l:=[] }, ⟨?_,I.lo,bP.br,λv hv=>by simp at hv,zH,λk b=>by simp [aa]at b,λk b=> ?_,I.sm⟩, .inr ⟨wq.heap.size,gd,_,S,rfl,bb,JN.aside bk (λk b=>by rw[b];exact zH),ap.out, .inl ⟨qf,zS,rfl,rfl,rfl,rfl, ?_, ?_⟩⟩,rfl,rfl,rI,eZ,σ,qf, ?_⟩
               · exact(dH.aQ (i:=1) ω _).congr (yQ rfl rfl rfl rfl rfl rfl rfl rfl)
               · have:=JN.cb k b;exact⟨Nat.le_trans K.low this.1,by rw[show(w5.setCell ⟨g,1,none⟩ (.slice none 0 0)).heap.size=w5.heap.size by simp [World.setCell]];exact this.2⟩
               · obtain⟨W8,T,R,s⟩ :=aC.out;refine .inl ⟨start (bV (x.drop 2)) Z.m, ⟨?_,s.st,s.last,s.left,s.c0,s.c1,s.c2,s.lens,s.hd,s.lt,s.ds,s.len,s.tail,s.rem,s.err⟩, .start (bc.bV (x.drop 2)) Z.m,rfl,by show []=[]++M.out;rw[R];rfl,by show Z.m<=_;omega⟩;show rb (M.B.drop (M.a/8)++x.drop 2) (M.a%8)=bV (x.drop 2)
                 rw[W8,T];rfl
               · show M.out.length<=_;rw[aC.out.2.2.1];simp
               · refine RY.out.trans ⟨?_, ?_,λk b=> ?_⟩
                 · exact(((JV.out.below (λk b=>by rw[b];exact K.lo) K.low).trans (zu.1.mono K.low))).setCell (p:= ⟨g,1,none⟩) K.lo _
                 · refine aq.setCell ((JV.out.more λk b=> .inl b).trans zu.2.1 λk b=> .inr (bl k b)) (p:= ⟨g,1,none⟩) (.inl (.inl rfl)) _
                 · rcases b with b | b | b
                   · exact .inl (.inl b)
                   · simp [aa]at b
                   · exact .inr (JN.cb k b).1
              clear dH JN zu QL Va RY K JV I
              go_wp2_with fail
              go_ret
              rw[V.out.1];exact aA.out
           · have u:=λq=>bad.out 2 (Ej t (by rw[z.out];exact HG.out.1) (by rw[z.out];exact HG.out.2) (by rw[Tx.out];exact .inr (by rw[U.out.2];decide))) δ q
             have u:=η u;clear F O f hA H hd bad L y X o r jh t;go_enter Tryz.func44,Tryz.ntmps44
             go_wp2_with fail
             go_quiet (fail)
             go_wp2_with fail
             go_ret
             exact u.out _
         · have bi:(D%31==0)=false:=by simpa using oW
           have cg:(D%31 != 0)=true:=by simpa using oW
           have cd:¬D%31=0:=oW;have ce:decide (D%31=0)=false:=decide_eq_false oW;have u:=λq=>bad.out 2 (Ej t (by rw[z.out];exact HG.out.1) (by rw[z.out];exact HG.out.2) (by rw[z.out,Tx.out];exact .inl (by have:=U.out.1;omega))) δ q
           have u:=η u;clear F O f hA H hd bad L y X o r jh t;go_enter Tryz.func44,Tryz.ntmps44
           go_wp2_with fail
           go_quiet (fail)
           go_wp2_with fail
           go_ret
           exact u.out _
   · have be:(C%16==8)=false:=by simpa using G
     have u:=η (bad.out 2 (IZ o (by rw[z.out];exact .inl G)) δ 0);clear F O f hA H hd bad L y X o;go_enter Tryz.func44,Tryz.ntmps44
     go_wp2_with fail
     go_ret
     exact u.out
theorem OT {h l:Int} (k:Nat) (m:0<=h) (j:0<=l/\l<2 ^ k) (n:h*2 ^ k+l<4294967296):bits .or .u32 (h*2 ^ k) l=h*2 ^ k+l:=by
 obtain⟨a,rfl⟩ :=Int.eq_ofNat_of_zero_le m;obtain⟨b,rfl⟩ :=Int.eq_ofNat_of_zero_le j.1;have e:((a:Nat):Int)*2 ^ k=((a <<< k:Nat):Int):=by rw[Nat.shiftLeft_eq,Int.natCast_mul];simp
 have o:((2 ^ k:Nat):Int)=2 ^ k:=σ
 have g:b<2 ^ k:=by
  have i:((b:Nat):Int)<((2 ^ k:Nat):Int):=by rw[o];exact j.2
  exact Int.ofNat_lt.1 i
 have c:a <<< k+b<4294967296:=by
  have i:(((a:Nat):Int))*2 ^ k+((b:Nat):Int)<4294967296:=n;rw[e]at i;omega
 show bits .or .u32 (((a:Nat):Int)*2 ^ k) ((b:Nat):Int)=((a:Nat):Int)*2 ^ k+((b:Nat):Int)
 have f:a <<< k<4294967296:=Nat.lt_of_le_of_lt (Nat.le_add_right _ _) c;have d:b<4294967296:=Nat.lt_of_le_of_lt (Nat.le_add_left _ _) c;rw[e,u32_or_nat _ _ f d,<-Nat.shiftLeft_add_eq_or_of_lt g,Int.natCast_add]
def jM (w:World) (b0 g:Nat) (c:Nat->Nat) (Z:ZR) (x a:List Int) (r:Int) (e:Ending) (w':World):Prop:=
 e= .returned (.int .i64 r)/\∃Z',mq w' b0 g c Z'/\wI w' (g+1) c x a Z'/\Z'.m=Z.m/\Z'.sum=Z.sum/\Z'.en=Z.en/\Z'.err=Z.err/\Z'.xm=true/\Z'.p=Z.p/\Ext b0 w w' (zX g c Z.A) (zX g c Z'.A)
theorem jM.same {w:World} {b0 g:Nat} {c:Nat->Nat} {Z:ZR} {x a:List Int} (d:mq w b0 g c Z) (i:wI w (g+1) c x a Z) (f:Z.xm=true) {r v:Int} (hv:v=r) (q:Nat):jM w b0 g c Z x a r (.returned (.int .i64 v)) (w.drewN q):=by
 have b:Below w.heap.size w (w.drewN q):=(aq.drewN (aq.refl w (λ_=>False)) q).below (λ_ h=>h.elim) (Nat.le_refl _);subst hv;exact⟨rfl,Z,d.keeps b,i.keeps b,rfl,rfl,rfl,rfl,f,rfl,(aq.drewN (aq.refl w (λ_=>False)) q).below (λ_ h=>h.elim) d.low,aq.drewN (aq.refl _ _) q,λk e=> .inl e⟩
theorem L9 (w:World) (b0 g:Nat) (c:Nat->Nat) (Z:ZR) (x a R:List Int) (h1:mq w b0 g c Z) (G gd:Nat) (M:DM) (S:DS) (hp:Z.p=some ⟨gd,0,none⟩) (sq:g+1<=G) (hM:dU w G gd c M S) (Y:m7 x=0) (qf:Z.xm=true) (h8:(ij x Z.m).2=8) (ha:a=(ij x Z.m).1.all)
  (hR:bV R=(ij x Z.m).1.x) (D:∀v∈R,0<=v/\v<256) (Ev:R.length<=100000000000) (hl:(Z.KB=false/\Z.l=R)\/(Z.KB=true/\4<=R.length/\sU R=Z.sum/\Z.l=R.drop 4)):
  Calls Tryz.prog 45 #[.pointer (some ⟨g,0,none⟩)] w (jM w b0 g c Z x a (oC R Z.sum Z.en)):=by
 have ab:wI w (g+1) c x a Z:= .inr ⟨G,gd,M,S,hp,sq,hM,Y, .inr ⟨qf,h8,ha,R,hR,D,hl⟩⟩;obtain⟨i0,hi,ao,X,an⟩ :=info_parts ez;have Hi:=η hi;have cV:=η X;clear hi ao X an;have Yr:=η (show∃G gd M S,Z.p=some ⟨gd,0,none⟩/\g+1<=G/\dU w G gd c M S/\m7 x=0/\(ij x Z.m).2=8/\a=(ij x Z.m).1.all/\bV R=(ij x Z.m).1.x/\∀v∈R,0<=v/\v<256 from⟨G,gd,M,S,hp,sq,hM,Y,h8,ha,hR,D⟩);have I:=η h1;have Zt:=η ab;have Q:=η qf;obtain⟨-,k1, -, -,k4,k5,k6, -⟩ :=h1.cells;have B:=h1.own;have C:=B.rd.1;have ap:=h1.sm;obtain⟨A,hA⟩ :=ν (Z.A);obtain⟨n,hn⟩ :=ν (Z.n);obtain⟨d,hd⟩ :=ν (Z.cp);obtain⟨s,hs⟩ :=ν (Z.sum);obtain⟨en,F⟩ :=ν (Z.en);rw[hA,hn,hd]at k1 B;rw[hn]at C;rw[hs]at k5 hl ap;rw[F]at k6;rw[hs,F];have HZ:=η (⟨hA,hn,hd,hs,F⟩ :_/\_/\_/\_/\_);clear h1 ab hA hn hd hs F ha h8 Y hM hp sq;rcases hl with ⟨CL,E⟩ | ⟨CL,h4,aE,E⟩
 · rw[CL]at k4;rw[E]at C B;by_cases YW:n<4
   · have bk:(n:Int)<4:=ω;have y:=η (jM.same I.out Zt.out Q.out (show(5:Int)=oC R s en by unfold oC;rw[if_pos ω]) 0);clear C YW E;go_enter Tryz.func45,Tryz.ntmps45
     go_wp2_with fail
     go_ret
     exact y.out
   · obtain⟨gA,off,rfl⟩ :=B.addr ω;have e0:w.cell? ⟨gA,off,none⟩ =some (.int .u8 (ix R 0)):=B.cell (i:=0) ω;have e1:=B.cell (i:=1) ω;have e2:=B.cell (i:=2) ω;have e3:=B.cell (i:=3) ω;have am:=D _ (nZ (x:=R) (i:=0) ω);have be:=D _ (nZ (x:=R) (i:=1) ω);have bd:=D _ (nZ (x:=R) (i:=2) ω);have bb:=D _ (nZ (x:=R) (i:=3) ω);have eK:sU R=ix R 0*16777216+ix R 1*65536+ix R 2*256+ix R 3:=rfl;obtain⟨r,N⟩ :=ν (ix R 0);obtain⟨o,mi⟩ :=ν (ix R 1);obtain⟨t,L⟩ :=ν (ix R 2);obtain⟨v3,K⟩ :=ν (ix R 3);obtain⟨V,hV⟩ :=ν (sU R);rw[N,mi,L,K,hV]at eK;rw[N]at e0 am;rw[mi]at e1 be;rw[L]at e2 bd;rw[K]at e3 bb;have o1:bits .or .u32 (r*16777216) (o*65536)=r*16777216+o*65536:=OT 24 am.1 ⟨ω,by show o*65536<16777216;omega⟩ (by show r*16777216+o*65536<_;omega);obtain⟨Ze,al⟩ :=ν (r*16777216+o*65536)
     have o2:bits .or .u32 Ze (t*256)=Ze+t*256:=by
      have:=OT (h:=r*256+o) (l:=t*256) 16 ω ⟨ω,by show t*256<65536;omega⟩ (by show(r*256+o)*65536+t*256<_;omega);rw[show(r*256+o)*2 ^ 16=Ze by show(r*256+o)*65536=Ze;omega]at this;exact this
     obtain⟨T,ah⟩ :=ν (Ze+t*256)
     have o3:bits .or .u32 T v3=V:=by
      have:=OT (h:=r*65536+o*256+t) (l:=v3) 8 ω ⟨ω,by show v3<256;omega⟩ (by show(r*65536+o*256+t)*256+v3<_;omega);rw[show(r*65536+o*256+t)*2 ^ 8=T by show(r*65536+o*256+t)*256=T;omega]at this;rw[this];omega
     rw[al]at o1;rw[ah]at o2;have w0:IntKind.u32.wrap (r*16777216)=r*16777216:=IntWalk.u32_in _ ω;have w1:IntKind.u32.wrap (o*65536)=o*65536:=IntWalk.u32_in _ ω;have w2:IntKind.u32.wrap (t*256)=t*256:=IntWalk.u32_in _ ω;have rE:¬(n:Int)<4/\(0:Int)<(n:Int)/\(1:Int)<(n:Int)/\(2:Int)<(n:Int)/\(3:Int)<(n:Int):=ω;have bi:¬n<4/\0<n/\1<n/\2<n/\3<n:=ω;have HV:=η hV;have U:=η C;have HO:=η B;have bo:=η E;clear N mi L K hV eK al ah D C YW B E hR;by_cases H:V=s
     · have aS:(V==s)=true:=by simpa using H
       have aI:(V != s)=false:=by simpa using H
       have lG:=bE (P:=Tryz.prog) 26 5 Tryz.underlying26 Hi.out cV.out (some ⟨gA,off,none⟩) n d (j:=4) ω;rw[show((4:Nat):Int)=4 from rfl]at lG;obtain⟨J,hJ⟩ :=ν (n-4);rw[hJ]at lG;have HJ:=η hJ;obtain⟨W,oT⟩ :=ν (bY (some ⟨gA,off,none⟩) d 4);rw[oT]at lG;have z1:=I.out.Q9 (i:=1) ω;have z4:=I.out.Q9 (i:=4) ω
       have fw:Hid (∀q,∃Z',mq (((w.drewN q).setCell ⟨g,1,none⟩ (.slice W J (d-4))).setCell ⟨g,4,none⟩ (.bool true)) b0 g c Z'/\wI (((w.drewN q).setCell ⟨g,1,none⟩ (.slice W J (d-4))).setCell ⟨g,4,none⟩ (.bool true)) (g+1) c x a Z'/\Z'.m=Z.m/\Z'.sum=Z.sum/\Z'.en=Z.en/\Z'.err=Z.err/\Z'.xm=true/\Z'.p=Z.p/\
         Ext b0 w (((w.drewN q).setCell ⟨g,1,none⟩ (.slice W J (d-4))).setCell ⟨g,4,none⟩ (.bool true)) (zX g c Z.A) (zX g c Z'.A)):=λq=>by
        obtain⟨G,gd,M,S,hp,sq,hM,Y,h8,ha,hR,D⟩ :=Yr.out;have u:=I.out;have hcut:=HO.out.cut (j:=4) (by have:=U.out;omega);rw[oT,HJ.out]at hcut;have z:aa W=aa Z.A:=by rw[HZ.out.1,<-oT];exact HO.out.blk 4
        have hc:aq w (((w.drewN q).setCell ⟨g,1,none⟩ (.slice W J (d-4))).setCell ⟨g,4,none⟩ (.bool true)) (λk=>k=g):=
         aq.setCell (S:=λk=>k=g) (aq.setCell (S:=λk=>k=g) (aq.drewN (aq.refl w _) q) (p:= ⟨g,1,none⟩) (.inl rfl) _) (p:= ⟨g,4,none⟩) (.inl rfl) _
        refine⟨{ Z with A:=W,n:=J,cp:=d-4,l:=R.drop 4,KB:=true }, ⟨?_,u.lo,hcut.cv hc (λk f e=>(u.cA k (by rw[<-z];exact f)).1 e),λv hv=>D v (List.mem_of_mem_drop hv),u.cg,λk f=>u.cA k (by rw[<-z];exact f),λk f=> ⟨(u.cb k f).1,Nat.lt_of_lt_of_le (u.cb k f).2 hc.size⟩,u.sm⟩,
         .inr ⟨G,gd,M,S,hp,sq,hM.aside hc (λk f=>by rw[f];exact u.cg),Y, .inr ⟨Q.out,h8,ha,R,hR,D, .inr ⟨rfl,by have:=U.out;omega,by show sU R=Z.sum;rw[HV.out,HZ.out.2.2.2.1];exact H,rfl⟩⟩⟩,rfl,rfl,rfl,rfl,Q.out,rfl,Ext.of (hc.more λk f=> .inl f) u.Ei u.low λk f=> ?_⟩
        · exact(((u.cell.drewN q).aQ (i:=1) ω _).aQ (i:=4) ω _).congr (yQ rfl rfl rfl rfl rfl rfl rfl rfl)
        · rcases f with f | f | f
          · exact .inl (.inl f)
          · exact .inl (.inr (.inl (by rw[<-z];exact f)))
          · exact .inl (.inr (.inr f))
       have b:Hid (¬R.length<4/\¬sU R≠s/\R.length-4=J):= ⟨by rw[<-U.out];omega,λh=>h (by rw[HV.out];exact H),by rw[<-U.out];exact HJ.out⟩;have bl:(J:Int)<=100000000000/\(0:Int)<=J:=by have:=U.out;omega
       clear hJ oT H;by_cases ad:0<J
       · have hr:Hid (oC R s en=2):=by show _=_;unfold oC;rw[if_neg b.out.1,if_neg b.out.2.1,if_pos (by have:=b.out.2.2;omega)]
         have bn:(0:Int)<(J:Int):=ω;go_enter Tryz.func45,Tryz.ntmps45
         go_wp2_with fail
         go_quiet (fail)
         go_wp2_with fail
         go_ret
         exact⟨aK hr.out.symm,fw.out _⟩
       · obtain rfl:J=0:=ω;cases en with
         | true=>
           have hr:Hid (oC R s true=8):=by show _=_;unfold oC;rw[if_neg b.out.1,if_neg b.out.2.1,if_neg (by have:=b.out.2.2;omega),if_pos rfl]
           clear ad;go_enter Tryz.func45,Tryz.ntmps45
           go_wp2_with fail
           go_quiet (fail)
           go_wp2_with fail
           go_ret
           exact⟨aK hr.out.symm,fw.out _⟩
         | false=>
           have hr:Hid (oC R s false=5):=by show _=_;unfold oC;rw[if_neg b.out.1,if_neg b.out.2.1,if_neg (by have:=b.out.2.2;omega),if_neg δ]
           clear ad;go_enter Tryz.func45,Tryz.ntmps45
           go_wp2_with fail
           go_quiet (fail)
           go_wp2_with fail
           go_ret
           exact⟨aK hr.out.symm,fw.out _⟩
     · have aS:(V==s)=false:=by simpa using H
       have aI:(V != s)=true:=by simpa using H
       have y:=λq=>η (jM.same I.out Zt.out Q.out (show(4:Int)=oC R s en by unfold oC;rw[if_neg (by rw[<-U.out];omega),if_pos (by rw[HV.out];exact H)]) q)
       have y:=η y;go_enter Tryz.func45,Tryz.ntmps45
       go_wp2_with fail
       go_quiet (fail)
       go_wp2_with fail
       go_ret
       exact(y.out _).out
 · rw[CL]at k4;rw[E]at C;have O:n=R.length-4:=by rw[C,List.length_drop]
   have rE:(n:Int)<=100000000000/\(0:Int)<=n:=ω;have b:Hid (¬R.length<4/\¬sU R≠s):= ⟨ω,λh=>h aE⟩;by_cases jU:0<n
   · have y:=η (jM.same I.out Zt.out Q.out (show(2:Int)=oC R s en by unfold oC;rw[if_neg b.out.1,if_neg b.out.2,if_pos ω]) 0);have aC:(0:Int)<(n:Int):=ω;clear C E O;go_enter Tryz.func45,Tryz.ntmps45
     go_wp2_with fail
     go_ret
     exact y.out
   · have aC:¬(0:Int)<(n:Int):=ω;have ac:n=0:=ω;cases en with
     | true=>
       have y:=η (jM.same I.out Zt.out Q.out (show(8:Int)=oC R s true by unfold oC;rw[if_neg b.out.1,if_neg b.out.2,if_neg ω,if_pos rfl]) 0);subst ac;clear C E O jU b;go_enter Tryz.func45,Tryz.ntmps45
       go_wp2_with fail
       go_ret
       exact y.out
     | false=>
       have y:=η (jM.same I.out Zt.out Q.out (show(5:Int)=oC R s false by unfold oC;rw[if_neg b.out.1,if_neg b.out.2,if_neg ω,if_neg δ]) 0);subst ac;clear C E O jU b;go_enter Tryz.func45,Tryz.ntmps45
       go_wp2_with fail
       go_ret
       exact y.out
theorem IS.KV {s:IS} (a:s.step.2≠0) (h6:s.step.2≠6):s.step.1.all=s.all:=by
 have c:∀(s:IS) b,(s.emit b).2=0\/(s.emit b).2=6:=λs b=>by unfold IS.emit;simp only;split <;> simp
 unfold IS.step at a h6⊢;by_cases l:s.st=0
 · rw[if_pos l]at a h6⊢;unfold IS.block at a h6⊢;revert a h6;repeat' split
   all_goals simp
 rw[if_neg l]at a h6⊢;by_cases k:s.st=1
 · rw[if_pos k]at a h6⊢;unfold IS.size at a h6⊢;revert a h6;repeat' split
   all_goals simp
 rw[if_neg k]at a h6⊢;by_cases j:s.st=2
 · rw[if_pos j]at a h6⊢;unfold IS.stored at a h6⊢;revert a h6;repeat' split
   · simp
   · simp
   · intro a h6;rcases c { s with x:=s.x.drop 8,left:=s.left-1 } [(num s.x 8:Int)]with h | h
     · exact absurd h a
     · exact absurd h h6
 rw[if_neg j]at a h6⊢;by_cases i:s.st=3
 · rw[if_pos i]at a h6⊢;unfold IS.sizes at a h6⊢;revert a h6;repeat' split
   all_goals simp
 rw[if_neg i]at a h6⊢;by_cases g:s.st=4
 · rw[if_pos g]at a h6⊢;unfold IS.heads at a h6⊢;revert a h6;repeat' split
   all_goals simp
 rw[if_neg g]at a h6⊢;by_cases f:s.st=5
 · rw[if_pos f]at a h6⊢;unfold IS.lengths IS.length IS.fB at a h6⊢;revert a h6;repeat' split
   all_goals simp
 rw[if_neg f]at a h6⊢;by_cases e:s.st=6
 · rw[if_pos e]at a h6⊢;unfold IS.token at a h6⊢;revert a h6;repeat' split
   all_goals first
    | (intro a h6;exact((c _ _).elim (λh=>absurd h a) (λh=>absurd h h6)))
    | simp
 rw[if_neg e]at a h6⊢;by_cases d:s.st=7
 · rw[if_pos d]at a h6⊢;unfold IS.ak IS.text at a h6⊢;revert a h6;repeat' split
   all_goals first
    | (intro a h6;exact((c _ _).elim (λh=>absurd h a) (λh=>absurd h h6)))
    | simp
 rw[if_neg d]at a h6⊢
theorem IS.JG {s:IS} (h:s.Ok):∀v∈s.fin.1.all,0<=v/\v<256:=by
 obtain⟨t,b,a⟩ :=IS.ft s;have ht:=h.steps b;rw[<-a];by_cases e:t.step.2=0\/t.step.2=6
 · exact(ht.step e).fC
 · rw[IS.KV (λh=>e (.inl h)) (λh=>e (.inr h))];exact ht.fC
theorem He (x:List Int) (m:Nat):∀v∈(ij x m).1.all,0<=v/\v<256:=IS.JG (.start (bc.bV _) m)
theorem a2S {s:IS} (h:s.Ok) (e:s.fin.2=8):s.fin.1.st=8:=by
 obtain⟨t,c,b⟩ :=IS.ft s;rw[<-b]at e⊢;obtain⟨a,m,l,k,j,i,g,f,d⟩ :=IS.step_done e;rw[a];have:=(h.steps c).st8;omega
theorem Lb {F:IS×Int} {a:List Int} {M:DM} {S:DS} {n:Nat} {l:List Int} {r:Int} (h:Hp F a M S n l r):l.length<=n:=by
 rcases h with ⟨_,h,_⟩ | ⟨_,h,_⟩ | ⟨_,_,_,h,_⟩
 · omega
 · omega
 · rw[h];simp
theorem PW {F:IS×Int} {a:List Int} {M:DM} {S:DS} {n:Nat} {l:List Int} {r:Int} (h:Hp F a M S n l r):ZIn F a M S:=by
 rcases h with ⟨_,_,h⟩ | ⟨_,_,_, ⟨s,h,_⟩ | ⟨_,h⟩⟩ | ⟨_,_,_,_,_,_,h⟩
 · exact h
 · exact .inl ⟨s,h⟩
 · exact .inr h
 · exact .inr h
def pP (w:World) (b0 g:Nat) (E:Nat->Prop) (x a:List Int) (m:Nat) (en:Bool) (b:Int) (p:Option Addr) (n:Nat) (e:Ending) (w':World):Prop:=
 ∃A k cp l r c Z,e= .returned (.tuple #[.slice A k cp, .int .i64 r])/\aT .u8 w' w'.heap.size A k l/\l.length<=n/\mq w' b0 g c Z/\wI w' (g+1) c x (a++l) Z/\Z.m=m/\Z.en=en/\Z.err=b/\Z.p=p/\Z.sum=bC 1 (a++l)/\Ext b0 w w' E (zX g c Z.A)/\
  ((r=0/\((Z.xm=true/\l=[])\/(Z.xm=false/\0<l.length)))\/(r≠0/\l=[]/\Z.xm=false/\a=dV x m/\r=zE x m en))
theorem Hc (w:World) (b0 g:Nat) (c:Nat->Nat) (Z:ZR) (x a:List Int) (h1:mq w b0 g c Z) (bI gd:Nat) (M:DM) (S:DS) (hp:Z.p=some ⟨gd,0,none⟩) (U:g+1<=bI) (hM:dU w bI gd c M S) (O:m7 x=0) (K:Z.xm=false) (Q:Z.KB=false) (hA:Z.A=none) (hn:Z.n=0) (JW:Z.cp=0) (hl:Z.l=[])
  (iq:ZIn (ij x Z.m) (a++M.out) M S) (Lu:M.out.length<=70000) (hs:Z.sum=bC 1 a) (n:Nat) (jU:0<n) (zR:n<=1000000000):
  Calls Tryz.prog 46 #[.pointer (some ⟨g,0,none⟩), .int .i64 n] w (pP w b0 g (zX g c Z.A) x a Z.m Z.en Z.err Z.p n):=by
 have aC:=JE hM.refl iq (n:Int) n ω zR ω;obtain⟨-, -,k2, -, -, -, -, -⟩ :=h1.cells;rw[hp]at k2;have Er:=η aC;have HH:=η (⟨hp,U,O,K,Q,hA,hn,JW,hl,hs⟩ :_/\_/\_/\_/\_/\_/\_/\_/\_/\_);have N:=η h1;have HM:=η hM;have HN:=η (⟨jU,zR⟩ :_/\_);have bl:=η Lu;have rE:(0:Int)<n/\(n:Int)<=1000000000:=ω;clear aC iq Lu h1 hM jU zR hp U O K Q hA hn JW hl hs;go_enter Tryz.func46,Tryz.ntmps46
 go_wp2_with fail
 refine Er.out.mono ?_;rintro e d ⟨X,j,d5,r,y,S5,b5,l,L,rfl,fF,JN,zu,bd,FM,be,hE⟩;obtain⟨hp,U,O,K,Q,hA,hn,JW,hl,hs⟩ :=HH.out;have NJ:=fF.1;have gY:=Lb hE;have iW:(a++M.out)++b5=(a++l)++y.out:=by rw[List.append_assoc,FM,List.append_assoc]
 rw[iW]at hE;have WR:=PW hE
 have al:∀v∈l,0<=v/\v<256:=λv hv=>by
  obtain⟨t,ht⟩ :=WR.pre;exact He x Z.m v (by rw[ht];simp [hv])
 have zH:L g=0:=by rw[zu.2.2 g N.out.cell.lt];exact N.out.cg
 have ao:∀k,c k≠0->k≠g/\aa Z.A≠some k:=λk b=> ⟨λe=>b (by rw[e];exact N.out.cg),λe=>b (N.out.cA k e).2⟩
 have h5:mq d b0 g L Z:=N.out.cv zu.2.1 ao (λk b=> ⟨by have:=(JN.cb k b).1;have:=N.out.lo;omega,(JN.cb k b).2⟩) zH (λk b=>by rw[hA]at b;simp [aa]at b)
 have NC:Ext b0 w d (zX g c Z.A) (zX g L Z.A):=Ext.of (zu.2.1.more λk b=> .inr (.inr b)) N.out.Ei N.out.low λk b=>by
  rcases b with b | b | b
  · exact .inl (.inl b)
  · exact .inl (.inr (.inl b))
  · rcases Nat.lt_or_ge k w.heap.size with h | h
    · exact .inl (.inr (.inr (by rw[<-zu.2.2 k h];exact b)))
    · exact .inr h
 obtain⟨-, -,bb, -, -,aS, -, -⟩ :=h5.cells;have z5:=h5.Q9 (i:=5) ω;have nY:=h5.sm
 have Es:=xl Z.sum X j d5 d.heap.size l d fF.rd (λi=>by
  have h:=a2A (k:= .u8) (l:=l) (λv hv=>by have:=al v hv;simp [Lit.wf,IntKind.min,IntKind.max,IntKind.signed,IntKind.bits];omega) δ i;exact bounds_u8 h) nY (by have:=HN.out;omega)
 have J:wm (dQ Z.sum) (eO Z.sum) l j*65536+pU (dQ Z.sum) l j=bC 1 (a++l):=by
  rw[NJ,<-BU,<-hs];rfl
 rw[J]at Es;obtain⟨V,hV⟩ :=ν (bC 1 (a++l));rw[hV]at Es;obtain⟨s0,ac⟩ :=ν (Z.sum);rw[ac]at Es aS;have zB:0<=V/\V<4294967296:=by rw[<-hV];exact iG _ _
 have z:=η Es;have f:aq d (d.setCell ⟨g,5,none⟩ (.int .u32 V)) (λk=>k=g):=aq.setCell (S:=λk=>k=g) (aq.refl d _) (p:= ⟨g,5,none⟩) (.inl rfl) _;have h6:mq (d.setCell ⟨g,5,none⟩ (.int .u32 V)) b0 g L { Z with sum:=V }:=h5.turn f ((h5.cell.aQ (i:=5) ω _).congr (yQ rfl rfl rfl rfl rfl rfl rfl rfl)) ⟨rfl,rfl,rfl,rfl⟩ zB;have H:dU (d.setCell ⟨g,5,none⟩ (.int .u32 V)) bI gd L y S5:=JN.aside f (λk b=>by rw[b];exact zH);have T:Ext b0 w (d.setCell ⟨g,5,none⟩ (.int .u32 V)) (zX g c Z.A) (zX g L Z.A):=NC.trans (Ext.of (f.more λk b=> .inl b) h5.Ei h5.low λk b=> .inl b)
 have ah:aT .u8 (d.setCell ⟨g,5,none⟩ (.int .u32 V)) d.heap.size X j l:=f.oH fF.rd (Nat.le_refl _) (λh0 ad e b=>by
  have D:aa X=some ad.block:=by rw[e];rfl
  have h8:=(fF.2.lt D).1;have b:ad.block=g:=b;omega)
 have Og:(d.setCell ⟨g,5,none⟩ (.int .u32 V)).heap.size=d.heap.size:=by simp [World.setCell]
 have bB:(j:Int)<=1000000000/\(0:Int)<=j:=by have:=HN.out;omega
 have F:Hid (∀v:Int,((v=0/\0<l.length)\/(v≠0/\l=[]/\a=dV x Z.m/\v=zE x Z.m Z.en))->pP w b0 g (zX g c Z.A) x a Z.m Z.en Z.err Z.p n (.returned (.tuple #[.slice X j d5, .int .i64 v])) (d.setCell ⟨g,5,none⟩ (.int .u32 V))):=λv hv=>by
  refine⟨X,j,d5,l,v,L,{ Z with sum:=V },rfl,ah.more (Nat.le_of_eq Og.symm),gY,h6, .inr ⟨bI,gd,y,S5,hp,U,H,O, .inl ⟨K,Q,hA,hn,JW,hl,WR,by have:=bl.out;omega⟩⟩,rfl,rfl,rfl,rfl,hV.symm,T, ?_⟩;rcases hv with ⟨h,h'⟩ | ⟨h,h',VO,h3⟩
  · exact .inl ⟨h, .inr ⟨K,h'⟩⟩
  · exact .inr ⟨h,h',K,VO,h3⟩
 unfold Hp at hE;have HE:=η hE;have H6:=η (⟨h6,H,T,NC⟩ :_/\_/\_/\_);have HV:=η hV;have Zp:=η NJ;have tW:=η gY
 have bv:(d.setCell ⟨g,5,none⟩ (.int .u32 V)).cell? ⟨g,2,none⟩ =some (.pointer (some ⟨gd,0,none⟩)):=by
  obtain⟨-, -,C, -⟩ :=h6.cells;rw[C];show some (Value.pointer Z.p)=_;rw[hp]
 rw[hp]at bb;clear h6 H T NC hE hV NJ gY ah Og f h5 Es J WR al iW FM be bd zH ao ac K Q hA hn JW hl hs hp U O zB nY;have f:=HE.out;clear HE;have E:Hid (m7 x=0):=HH.out.2.2.1;rcases f with ⟨rfl,q1,C⟩ | ⟨rfl,q1,C,o⟩ | ⟨q1,C,o,I,q5,q6,Y⟩
 · have CH:(0:Int)<(j:Int)/\0<j:=by have:=Zp.out;have:=HN.out;omega
   have G:=η (F.out 0 (.inl ⟨rfl,by have:=Zp.out;omega⟩));clear C F
   go_wp2_with fail
   refine z.out.mono ?_;rintro e w8 ⟨rfl,rfl⟩
   go_wp2_with fail
   go_returns
   exact G.out
 · by_cases CH:0<j
   · have NH:(0:Int)<(j:Int):=ω;have G:=η (F.out 0 (.inl ⟨rfl,by have:=Zp.out;omega⟩));clear C o F
     go_wp2_with fail
     refine z.out.mono ?_;rintro e w8 ⟨rfl,rfl⟩
     go_wp2_with fail
     go_returns
     exact G.out
   · have R:l=[]:=List.eq_nil_of_length_eq_zero (by have:=Zp.out;omega)
     have G:Hid (pP w b0 g (zX g c Z.A) x a Z.m Z.en Z.err Z.p n (.returned (.tuple #[.slice X j d5, .int .i64 5])) (d.setCell ⟨g,5,none⟩ (.int .u32 V))):=by
      refine F.out 5 (.inr ⟨δ,R, ?_⟩);rcases o with ⟨s,o,I⟩ | ⟨o,_⟩
      · obtain⟨e1,D⟩ :=Ha o I;rw[C,List.append_nil,R,List.append_nil]at D;refine⟨?_, ?_⟩
        · unfold dV;rw[if_neg (by rw[E.out];decide)];exact D.symm
        · unfold zE;rw[if_neg (by rw[E.out];decide),if_pos (by rw[e1];decide),e1]
      · rw[R]at o;simp at o
     have NH:¬(0:Int)<(j:Int):=ω;clear C o F
     go_wp2_with fail
     refine z.out.mono ?_;rintro e w8 ⟨rfl,rfl⟩
     go_wp2_with fail
     go_returns
     exact G.out
 · have CH:j=0:=by have:=Zp.out;rw[I]at this;simpa using this
   subst CH;by_cases Z0:r=8
   · obtain rfl:r=8:=Z0;obtain⟨h6,H,T, -⟩ :=H6.out;have W:(ij x Z.m).2=8:=o.symm;have an:S5.err=8:=by rw[Y.err];exact W
     obtain⟨aI,aE⟩ :=Y.YB W;have ab:=a2S (s:=start (bV (x.drop 2)) Z.m) (.start (bc.bV _) Z.m) W;have oF:=aE.even (.inr (.inr ab));have G5:=aI.x;rw[<-G5,dm]at oF;have bi:=H.ir.le;have qq:=Fk H.refl an ω
     have oU:bV (y.B.drop (y.a/8))=(ij x Z.m).1.x:=by
      rw[uf,<-G5];unfold rb;rw[show 8*(y.a/8)=y.a by omega]
     have u:a=(ij x Z.m).1.all:=by
      have D:=Y.all;rw[q6,List.append_nil,I,List.append_nil]at D;exact D.symm
     have zz:∀v∈y.B.drop (y.a/8),0<=v/\v<256:=λv hv=>H.ir.fC v (List.mem_of_mem_drop hv)
     have zH:L g=0:=h6.cg;have kJ:g<(d.setCell ⟨g,5,none⟩ (.int .u32 V)).heap.size:=h6.cell.lt;have am:=h6.cell;have Bq:=η qq;have bn:=η (⟨W,oU,u,zz⟩ :_/\_/\_/\_);have bk:=η I;clear oF G5 bi qq W an ab aI aE oU u zz q1 C o q5 q6 Y F h6 H T I
     go_wp2_with fail
     refine z.out.mono ?_;rintro e w8 ⟨rfl,rfl⟩
     go_wp2_with fail
     refine Bq.out.mono ?_;rintro e w7 ⟨A7,k7,c7,rfl,wZ,c8,xF,TT,Qv⟩;have lu:=TT.2.1.ar am (λe=>e zH);have bp:=lu.frozen' (i:=1) ω;have bo:=lu.frozen' (i:=3) ω;have bt:=lu.cell (i:=1) ω;have bs:=lu.cell (i:=3) ω
     have G:Hid (pP w b0 g (zX g c Z.A) x a Z.m Z.en Z.err Z.p n (.returned (.tuple #[.slice none 0 0, .int .i64 0])) ((w7.setCell ⟨g,1,none⟩ (.slice A7 k7 c7)).setCell ⟨g,3,none⟩ (.bool true))):=by
      obtain⟨h6,H,T, -⟩ :=H6.out;obtain⟨W,oU,u,zz⟩ :=bn.out;obtain⟨hp,U,O,K,Q,hA,hn,JW,hl,hs⟩ :=HH.out;have mB:=h6.low;have Qd:∀q,aa A7=some q->(d.setCell ⟨g,5,none⟩ (.int .u32 V)).heap.size<=q:=λq P=>(wZ.2.lt P).1
      have JL:aa A7≠some g:=λe=>by have:=Qd g e;omega
      have f:aq w7 ((w7.setCell ⟨g,1,none⟩ (.slice A7 k7 c7)).setCell ⟨g,3,none⟩ (.bool true)) (λk=>k=g):=aq.setCell (S:=λk=>k=g) (aq.setCell (S:=λk=>k=g) (aq.refl w7 _) (p:= ⟨g,1,none⟩) (.inl rfl) _) (p:= ⟨g,3,none⟩) (.inl rfl) _;have ap:c8 g=0:=by rw[TT.2.2 g kJ];exact zH
      refine⟨none,0,0,[],0,c8,{ Z with sum:=V,A:=A7,n:=k7,cp:=c7,l:=y.B.drop (y.a/8),xm:=true },rfl, ⟨rfl,Rd.br⟩,Nat.zero_le _, ⟨?_,h6.lo, ?_,zz,ap,λq P=> ⟨λe=>JL (by rw[P,e]),Qv q P⟩,λq P=> ⟨?_,Nat.lt_of_lt_of_le (xF.cb q P).2 f.size⟩,h6.sm⟩, .inr ⟨bI,gd,_,S5,hp,U,xF.aside f (λk b=>by rw[b];exact ap),O, .inr ⟨rfl,W,by rw[List.append_nil];exact u,_,oU,zz, .inl ⟨Q,rfl⟩⟩⟩,rfl,rfl,rfl,rfl, ?_,T.trans ⟨?_, ?_,λk b=> ?_⟩, .inl ⟨rfl, .inl ⟨rfl,rfl⟩⟩⟩
      · exact((lu.aQ (i:=1) ω _).aQ (i:=3) ω _).congr (yQ rfl rfl rfl rfl rfl rfl rfl rfl)
      · exact((wZ.more mB).up.far (p:= ⟨g,1,none⟩) JL _).far (p:= ⟨g,3,none⟩) JL _
      · have:=(xF.cb q P).1;have:=h6.lo;omega
      · show V=_;rw[<-HV.out,bk.out]
      · exact((TT.1.mono (by have:=h6.lo;omega)).setCell (p:= ⟨g,1,none⟩) h6.lo _).setCell (p:= ⟨g,3,none⟩) h6.lo _
      · exact((TT.2.1.more λk b=> .inr (.inr b)).setCell (p:= ⟨g,1,none⟩) (.inl (.inl rfl)) _).setCell (p:= ⟨g,3,none⟩) (.inl (.inl rfl)) _
      · rcases b with b | b | b
        · exact .inl (.inl b)
        · exact .inr (Qd k b)
        · rcases Nat.lt_or_ge k (d.setCell ⟨g,5,none⟩ (.int .u32 V)).heap.size with h | h
          · exact .inl (.inr (.inr (by rw[<-TT.2.2 k h];exact b)))
          · exact .inr h
     clear wZ xF TT Qv lu am Bq
     go_wp2_with fail
     go_returns
     exact G.out
   · have bx:(r==8)=false:=by simpa using Z0
     have G:Hid (pP w b0 g (zX g c Z.A) x a Z.m Z.en Z.err Z.p n (.returned (.tuple #[.slice X 0 d5, .int .i64 r])) (d.setCell ⟨g,5,none⟩ (.int .u32 V))):=by
      refine F.out r (.inr ⟨q1,I, ?_, ?_⟩)
      · have D:=Y.all;rw[q6,List.append_nil,I,List.append_nil]at D;unfold dV;rw[if_neg (by rw[E.out];decide)];exact D.symm
      · unfold zE;rw[if_neg (by rw[E.out];decide),if_pos (by rw[<-o];exact Z0),o]
     clear q1 C o q5 q6 Y F Z0
     go_wp2_with fail
     refine z.out.mono ?_;rintro e w8 ⟨rfl,rfl⟩
     go_wp2_with fail
     go_returns
     exact G.out
theorem PE {s t:IS} (h:IS.Steps s t):t.mu<=s.mu:=by
 induction h with
 | refl=>exact Nat.le_refl _
 | tail _ h2 ih=>exact Nat.le_trans (Nat.le_of_lt (IS.ek h2)) ih
theorem Hf (x:List Int) (m:Nat) (b:(ij x m).2=8):(ij x m).1.x.length<=(bV (x.drop 2)).length:=by
 obtain⟨t,c,a⟩ :=IS.ft (start (bV (x.drop 2)) m);have e:t.step.2=8:=by rw[a];exact b
 have d:(ij x m).1=t:=by
  show(start (bV (x.drop 2)) m).fin.1=t
  rw[<-a];exact(IS.step_done e).1
 rw[d];have f:=PE c;have h4:3*t.x.length<=t.mu:=by unfold IS.mu;omega
 have h5:(start (bV (x.drop 2)) m).mu=3*(bV (x.drop 2)).length:=by unfold IS.mu;rw[if_neg (by show¬(0:Nat)=4;omega),if_neg (by show¬((0:Nat)=5\/(0:Nat)=2);omega)];rfl
 omega
def BC (Z:ZR):Nat:=match Z.p with | none=>2 | some _=>if Z.xm then 0 else 1
def pR (w:World) (b0 g:Nat) (E:Nat->Prop) (x a:List Int) (m:Nat) (en:Bool) (d:Int) (b n:Nat) (e:Ending) (w':World):Prop:=
 ∃A k cp l r c Z,e= .returned (.tuple #[.slice A k cp, .int .i64 r])/\aT .u8 w' w'.heap.size A k l/\l.length<=n/\mq w' b0 g c Z/\wI w' (g+1) c x (a++l) Z/\Z.m=m/\Z.en=en/\Z.err=d/\Z.sum=bC 1 (a++l)/\Ext b0 w w' E (zX g c Z.A)/\
  ((r=0/\(BC Z<b\/(BC Z=b/\0<l.length)))\/(r≠0/\l=[]/\a=dV x m/\r=zE x m en))
theorem La (w:World) (b0 g:Nat) (c:Nat->Nat) (Z:ZR) (x a:List Int) (d:mq w b0 g c Z) (h2:wI w (g+1) c x a Z) (z:Z.sum=bC 1 a) (I:Z.err=0) (Y:Z.m<=1000000000) (lH:x.length<=1000000000) (n:Nat) (X:0<n) (W:n<=1000000000):
  Calls Tryz.prog 26 #[.pointer (some ⟨g,0,none⟩), .int .i64 n] w (pR w b0 g (zX g c Z.A) x a Z.m Z.en 0 (BC Z) n):=by
 obtain⟨-, -,k2,k3, -, -, -, -⟩ :=d.cells;rcases h2 with ⟨hp,q2,q3,q4,N,q6⟩ | ⟨bI,gd,M,S,hp,sq,hM,b, ⟨y,H,G,F,J,O,p7,p8⟩ | ⟨y,H,G,R,F,J,O⟩⟩
 · have V:=η (Hb w b0 g c Z x d hp q2 q3 q4 q6 I Y (by rw[z,N];decide) ω)
   have eW:Hid (∀q,m7 x≠0->pR w b0 g (zX g c Z.A) x a Z.m Z.en 0 (BC Z) n (.returned (.tuple #[.slice none 0 0, .int .i64 (m7 x)])) (w.drewN q)):=λq b=>by
    have YN:Below w.heap.size w (w.drewN q):=(aq.drewN (aq.refl w (λ_=>False)) q).below (λ_ h=>h.elim) (Nat.le_refl _);refine⟨none,0,0,[],m7 x,c,Z,rfl, ⟨rfl,Rd.br⟩,Nat.zero_le _,d.keeps YN, ?_,rfl,rfl,I,by rw[List.append_nil];exact z, ⟨(aq.drewN (aq.refl w (λ_=>False)) q).below (λ_ h=>h.elim) d.low,aq.drewN (aq.refl _ _) q,λk hk=> .inl hk⟩, .inr ⟨b,rfl, ?_, ?_⟩⟩
    · rw[List.append_nil];exact .inl ⟨hp,q2,q3,q4,N,q6⟩
    · rw[N];unfold dV;rw[if_pos b]
    · unfold zE;rw[if_pos b]
   have f:=η (show BC Z=2 by unfold BC;rw[hp]);have HA:=η N;rw[hp]at k2;clear d z I Y lH q2 q3 q4 N q6 hp X W;go_enter Tryz.func26,Tryz.ntmps26
   go_wp2_with fail
   refine V.out.mono ?_;rintro e K (⟨b,rfl,q,rfl⟩ | ⟨b,rfl,c5,C,u,t,s,o,l,j,E,D,i⟩)
   · have B:=η (eW.out q b);clear eW
     go_wp2_with fail
     go_returns
     exact B.out
   · have B:Hid (pR w b0 g (zX g c Z.A) x a Z.m Z.en 0 (BC Z) n (.returned (.tuple #[.slice none 0 0, .int .i64 0])) K):=by
      refine⟨none,0,0,[],0,c5,C,rfl, ⟨rfl,Rd.br⟩,Nat.zero_le _,u, ?_,s,o,j, ?_,i, .inl ⟨rfl, .inl ?_⟩⟩
      · rw[HA.out];exact t
      · rw[l,HA.out];decide
      · rw[f.out];unfold BC;cases Xl:C.p with
        | none=>exact absurd Xl E
        | some _=>simp only [D];decide
     clear eW u t s o l j E D i
     go_wp2_with fail
     go_returns
     exact B.out
 · have V:=η (Hc w b0 g c Z x a d bI gd M S hp sq hM b y H G F J O p7 p8 z n X W);have f:=η (show BC Z=1 by unfold BC;rw[hp,y];rfl);have U:=η (⟨hp,I⟩ :_/\_);rw[hp]at k2;rw[y]at k3;clear d z I Y lH hM b y H G F J O p7 p8 hp X W;go_enter Tryz.func26,Tryz.ntmps26
   go_wp2_with fail
   refine V.out.mono ?_;rintro e K ⟨A5,k5,d5,l5,r,c5,C,rfl,u,t,s,o,l,j,E,D,i,L,P⟩
   have B:Hid (pR w b0 g (zX g c Z.A) x a Z.m Z.en 0 (BC Z) n (.returned (.tuple #[.slice A5 k5 d5, .int .i64 r])) K):=by
    refine⟨A5,k5,d5,l5,r,c5,C,rfl,u,t,s,o,l,j,E.trans U.out.2,i,L, ?_⟩;have Sr:BC C=if C.xm then 0 else 1:=by unfold BC;rw[D,U.out.1]
    rcases P with ⟨h, ⟨T,h4⟩ | ⟨T,h4⟩⟩ | ⟨h,T,h4,h5,h6⟩
    · exact .inl ⟨h, .inl (by rw[Sr,f.out,T];decide)⟩
    · exact .inl ⟨h, .inr ⟨by rw[Sr,f.out,T];rfl,h4⟩⟩
    · exact .inr ⟨h,T,h5,h6⟩
   clear u t s o l j E D i L P
   go_wp2_with fail
   go_returns
   exact B.out
 · have Ev:R.length<=100000000000:=by
    have e:(bV R).length<=(bV (x.drop 2)).length:=by
     rw[F];exact Hf x Z.m H
    rw[bD,bD,List.length_drop]at e;omega
   have V:=η (L9 w b0 g c Z x a R d bI gd M S hp sq hM b y H G F J Ev O)
   have hr:Hid (oC R Z.sum Z.en=zE x Z.m Z.en):=by
    show _=_
    unfold zE;rw[if_neg (by rw[b];decide),if_neg (by rw[H];decide),<-F,tD J,z,G]
   have Q:Hid (a=dV x Z.m):=by show _=_;unfold dV;rw[if_neg (by rw[b];decide)];exact G
   have U:=η (⟨z,I⟩ :_/\_);rw[hp]at k2;rw[y]at k3;clear d z I Y lH hM b y H G F J O hp X W Ev;go_enter Tryz.func26,Tryz.ntmps26
   go_wp2_with fail
   refine V.out.mono ?_;rintro e K ⟨rfl,C,u,t,s,o,l,j,E,D,i⟩
   have B:Hid (pR w b0 g (zX g c Z.A) x a Z.m Z.en 0 (BC Z) n (.returned (.tuple #[.slice none 0 0, .int .i64 (oC R Z.sum Z.en)])) K):=by
    refine⟨none,0,0,[],oC R Z.sum Z.en,c,C,rfl, ⟨rfl,Rd.br⟩,Nat.zero_le _,u,by rw[List.append_nil];exact t,s,l,j.trans U.out.2,by rw[List.append_nil,o];exact U.out.1,i, .inr ⟨by rw[hr.out];exact a2Q _ _ _,rfl,Q.out,hr.out⟩⟩
   obtain⟨v,hv⟩ :=ν (oC R Z.sum Z.en);rw[hv]at B⊢;clear u t s o l j E D i hv hr
   go_wp2_with fail
   go_returns
   exact B.out
end Go.Proofs.YtddhegejmkgmjaaGreat
