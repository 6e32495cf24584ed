/-
  part
-/
import Derived.Test.YtdhmnlpfhfmpfaaGreatRgz
set_option linter.unusedVariables false
set_option maxRecDepth 100000
set_option maxHeartbeats 8000000
namespace Go.Proofs.YtdhmnlpfhfmpfaaGreat
open Go.RowKit
structure Ez (w:World) (b0:Nat) (XB:Nat->Prop) (A:ay) (n c:Nat) (H:List HV) (hs:List (aj)):Prop where
 own:Own w b0 31 11 A n c (mb H)
 n_:n=H.length
 len:H.length=hs.length
 ex:∀i,i<hs.length->∃X m cc,H.getD i hz=xR (hs.getD i []) (.slice X m cc)/\m<=cc/\cc<=maxLen/\bT .u8 w w.heap.size X m (vO (hs.getD i []))/\∀ad,X=some ad->0<m->XB ad.block
 xb:∀k,XB k->b0<=k/\k<w.heap.size/\ak A≠some k
structure GR where
 m:Nat
 A:ay
 n:Nat
 cp:Nat
 l:aj
 p:ay
 Pm:Bool
 Ci:Int
 size:Int
 Ah:ay
 nh:Nat
 ch:Nat
 en:Bool
 err:Int
def gcF (Z:GR):Nat->Value
 | 0=> .int .i64 Z.m
 | 1=> .slice Z.A Z.n Z.cp
 | 2=> .pointer Z.p
 | 3=> .bool Z.Pm
 | 4=> .int .u32 Z.Ci
 | 5=> .int .u32 Z.size
 | 6=> .slice Z.Ah Z.nh Z.ch
 | 7=> .bool Z.en
 | _=> .int .i64 Z.err
theorem Cx {P:Nat->Prop} (f:P 0) (e:P 1) (d:P 2) (c:P 3) (h4:P 4) (h5:P 5) (h6:P 6) (h7:P 7) (b:P 8):∀j,j<9->P j:=λj a=>by
 obtain rfl | rfl | rfl | rfl | rfl | rfl | rfl | rfl | rfl:j=0\/j=1\/j=2\/j=3\/j=4\/j=5\/j=6\/j=7\/j=8:=ω;all_goals assumption
def gX (g:Nat) (c:Nat->Nat) (XB:Nat->Prop) (A Ah:ay):Nat->Prop:=λk=>k=g\/ak A=some k\/ak Ah=some k\/XB k\/c k≠0
structure qy (w:World) (b0 g:Nat) (c:Nat->Nat) (XB:Nat->Prop) (Z:GR) (H:List HV) (hs:List (aj)):Prop where
 cell:Ar w g 9 (gcF Z)
 lo:b0<=g
 own:jx .u8 w b0 5 Z.A Z.n Z.cp Z.l
 hdr:Ez w b0 XB Z.Ah Z.nh Z.ch H hs
 jR:∀v∈Z.l,0<=v/\v<256
 cg:c g=0
 cA:∀k,ak Z.A=some k->k≠g/\c k=0/\ak Z.Ah≠some k/\¬XB k
 cH:∀k,ak Z.Ah=some k->k≠g/\c k=0
 cX:∀k,XB k->k≠g/\c k=0
 cb:∀k,c k≠0->b0<=k/\k<w.heap.size
 sm:(0<=Z.Ci/\Z.Ci<4294967296)/\0<=Z.size/\Z.size<4294967296
abbrev GT:=aj×List (aj)×Int
def Et (w:World) (b0:Nat) (c:Nat->Nat) (T:GT) (a:aj) (hs:List (aj)) (rk:Nat) (Z:GR):Prop:=
 (Z.p=none/\Z.Pm=false/\(∀k,c k=0)/\∃f,Z.l.length<f/\hs.length+f<=1000001/\rk=3*f+2/\T=(a++(gz f Z.l Z.m (decide (0<hs.length))).1,hs++(gz f Z.l Z.m (decide (0<hs.length))).2.1,(gz f Z.l Z.m (decide (0<hs.length))).2.2))\/
 (∃d gd M S y m0 f e b,Z.p=some ⟨gd,0,none⟩/\b0<=d/\jg w d gd c M S/\(∀v∈y,0<=v/\v<256)/\y.length<=f/\hs.length+f<=1000001/\m0<=1000000000/\0<hs.length/\T=(e++((fx y m0).1.all++(gT f (fx y m0) m0).1),hs++(gT f (fx y m0) m0).2.1,(gT f (fx y m0) m0).2.2)/\
   Z.m+b.length=m0/\a=e++b/\Z.Ci=vM 0 b/\Z.size=(b.length:Int)/\
   ((Z.Pm=false/\rk=3*f+4/\Z.A=none/\Z.n=0/\Z.cp=0/\Z.l=[]/\ZIn (fx y m0) (b++M.out) M S/\M.out.length<=70000)\/
    (Z.Pm=true/\rk=3*f+3/\(fx y m0).2=8/\b=(fx y m0).1.all/\Z.l=ke (fx y m0).1.x/\Z.l.length<=f)))
section
variable {w w' w'':World} {b0 g:Nat} {c c':Nat->Nat} {XB:Nat->Prop} {Z Z':GR} {H:List HV} {hs:List (aj)} {a:aj} {T:GT} {rk:Nat} {E E':Nat->Prop}
theorem Ez.fC {A:ay} {n cp:Nat} {F:Nat->Prop} (h:Ez w b0 XB A n cp H hs) (b:bk w w' F) (hA:∀k,F k->ak A≠some k) (d:∀k,F k->¬XB k):Ez w' b0 XB A n cp H hs:=
 ⟨b.own h.own (λk a e=>hA k e a),h.n_,h.len,λi hi=>by
   obtain⟨X,m,cc,o,l,j,g,c⟩ :=h.ex i hi;exact⟨X,m,cc,o,l,j,(b.ri g (ai _) (λf p e hF=>d _ hF (c p e f))).more b.size,c⟩,λk a=> ⟨(h.xb k a).1,aB (h.xb k a).2.1 b.size,(h.xb k a).2.2⟩⟩
theorem qy.Cr (h:qy w b0 g c XB Z H hs):∀k,gX g c XB Z.A Z.Ah k->b0<=k/\k<w.heap.size:=λk a=>by
 rcases a with rfl | a | a | a | a
 · exact⟨h.lo,h.cell.lt⟩
 · exact h.own.lt a
 · exact h.hdr.own.lt a
 · exact⟨(h.hdr.xb k a).1,(h.hdr.xb k a).2.1⟩
 exact h.cb k a
theorem qy.low (h:qy w b0 g c XB Z H hs):b0<=w.heap.size:=aw h.lo (dh h.cell.lt)
theorem qy.cells (h:qy w b0 g c XB Z H hs):w.cell? ⟨g,0,none⟩ =some (.int .i64 Z.m)/\w.cell? ⟨g,1,none⟩ =some (.slice Z.A Z.n Z.cp)/\w.cell? ⟨g,2,none⟩ =some (.pointer Z.p)/\w.cell? ⟨g,3,none⟩ =some (.bool Z.Pm)/\w.cell? ⟨g,4,none⟩ =some (.int .u32 Z.Ci)/\
  w.cell? ⟨g,5,none⟩ =some (.int .u32 Z.size)/\w.cell? ⟨g,6,none⟩ =some (.slice Z.Ah Z.nh Z.ch)/\w.cell? ⟨g,7,none⟩ =some (.bool Z.en)/\w.cell? ⟨g,8,none⟩ =some (.int .i64 Z.err):=
 ⟨h.cell.cell ω,h.cell.cell ω,h.cell.cell ω,h.cell.cell ω,h.cell.cell ω,h.cell.cell ω,h.cell.cell ω,h.cell.cell ω,h.cell.cell ω⟩
theorem qy.S4 (h:qy w b0 g c XB Z H hs) {i:Nat} (hi:i<9):w.frozen? ⟨g,i,none⟩ =false:=h.cell.frozen' hi
theorem qy.turn (h:qy w b0 g c XB Z H hs) (f:bk w w' (λk=>k=g)) (j:Ar w' g 9 (gcF Z')) (hA:jx .u8 w' b0 5 Z'.A Z'.n Z'.cp Z'.l/\(∀k,ak Z'.A=some k->ak Z.A=some k)/\(∀v∈Z'.l,0<=v/\v<256)) (i:Z'.Ah=Z.Ah/\Z'.nh=Z.nh/\Z'.ch=Z.ch) (b:(0<=Z'.Ci/\Z'.Ci<4294967296)/\0<=Z'.size/\Z'.size<4294967296):qy w' b0 g c XB Z' H hs:=by
 obtain⟨p,o,m⟩ :=hA;obtain⟨d,r,q⟩ :=i;exact⟨j,h.lo,p,by rw[d,r,q];exact h.hdr.fC f (λk a e=>(h.cH k e).1 a) (λk a e=>(h.cX k e).1 a),m,h.cg,λk a=>by rw[d];exact h.cA k (o k a),λk a=>h.cH k (by rw[<-d];exact a),h.cX,λk a=> ⟨(h.cb k a).1,aB (h.cb k a).2 f.size⟩,b⟩
theorem qy.a4A (h:qy w b0 g c XB Z H hs) (b:bk w w' (λk=>k=g)):jx .u8 w' b0 5 Z.A Z.n Z.cp Z.l/\(∀k,ak Z.A=some k->ak Z.A=some k)/\(∀v∈Z.l,0<=v/\v<256):= ⟨h.own.fC b (λk a e=>(h.cA k a).1 e),λk a=>a,h.jR⟩
theorem qy.fC {F:Nat->Prop} (h:qy w b0 g c XB Z H hs) (f:bk w w' F) (hF:∀k,F k->k≠g/\ak Z.A≠some k/\ak Z.Ah≠some k/\¬XB k) (d:∀k,c' k≠0->b0<=k/\k<w'.heap.size) (b:∀k,k<w.heap.size->c k=0->c' k=0):qy w' b0 g c' XB Z H hs:=
 ⟨f.ar h.cell (λe=>(hF g e).1 rfl),h.lo,h.own.fC f (λk a e=>(hF k e).2.1 a),h.hdr.fC f (λk a=>(hF k a).2.2.1) (λk a=>(hF k a).2.2.2),h.jR,b g h.cell.lt h.cg,λk a=> ⟨(h.cA k a).1,b k (h.own.lt a).2 (h.cA k a).2.1,(h.cA k a).2.2⟩,λk a=> ⟨(h.cH k a).1,b k (h.hdr.own.lt a).2 (h.cH k a).2⟩,λk a=> ⟨(h.cX k a).1,b k (h.hdr.xb k a).2.1 (h.cX k a).2⟩,d,h.sm⟩
theorem qy.keeps (h:qy w b0 g c XB Z H hs) (b:Below w.heap.size w w'):qy w' b0 g c XB Z H hs:=
 h.fC (bk.bJ (S:=λ_=>False) b) (λk a=>a.elim) (λk a=> ⟨(h.cb k a).1,aB (h.cb k a).2 b.size⟩) (λ_ _ e=>e)
theorem Et.keeps (h:Et w b0 c T a hs rk Z) (b:Below w.heap.size w w'):Et w' b0 c T a hs rk Z:=by
 rcases h with h | ⟨i,gd,M,S,y,m0,f,k,j,g,e,d,h4⟩
 · exact .inl h
 exact .inr ⟨i,gd,M,S,y,m0,f,k,j,g,e,d.keeps b,h4⟩
theorem Et.aside {F:Nat->Prop} (h:Et w b0 c T a hs rk Z) (b:bk w w' F) (hF:∀k,F k->c k=0) (d:Z'.m=Z.m/\Z'.A=Z.A/\Z'.n=Z.n/\Z'.cp=Z.cp/\Z'.l=Z.l/\Z'.p=Z.p/\Z'.Pm=Z.Pm/\Z'.Ci=Z.Ci/\Z'.size=Z.size):Et w' b0 c T a hs rk Z':=by
 obtain⟨x,v,u,t,s,r,q,o,j⟩ :=d;unfold Et at h⊢;rw[x,v,u,t,s,r,q,o,j];rcases h with h | ⟨z,gd,M,S,y,m0,f,C,B,i,g,e,h4⟩
 · exact .inl h
 exact .inr ⟨z,gd,M,S,y,m0,f,C,B,i,g,e.aside b hF,h4⟩
end
def SM (w:World) (b0 g:Nat) (E:Nat->Prop) (T:GT) (a:aj) (rk n:Nat) (e:Ending) (w':World):Prop:=
 ∃A k cp l r c XB Z H hs b,e= .returned (.tuple #[.slice A k cp, .int .i64 r])/\bT .u8 w' w'.heap.size A k l/\l.length<=n/\qy w' b0 g c XB Z H hs/\Et w' (g+1) c T (a++l) hs b Z/\Z.en=true/\Z.err=0/\Z.m<=1000000000/\Z.l.length<=1000000/\Ext b0 w w' E (gX g c XB Z.A Z.Ah)/\
  ((r=0/\(b<rk\/(b=rk/\0<l.length)))\/(r≠0/\l=[]/\a=T.1/\hs=T.2.1/\r=T.2.2))
def zM (w:World) (b0 g:Nat) (E:Nat->Prop) (T:GT) (a:aj) (rk:Nat) (e:Ending) (w':World):Prop:=
 ∃r c XB Z H hs b,e= .returned (.int .i64 r)/\qy w' b0 g c XB Z H hs/\Et w' (g+1) c T a hs b Z/\Z.en=true/\Z.err=0/\Z.m<=1000000000/\Z.l.length<=1000000/\Ext b0 w w' E (gX g c XB Z.A Z.Ah)/\((r=0/\b<rk)\/(r≠0/\a=T.1/\hs=T.2.1/\r=T.2.2))
def Ys (w:World) (b0 g:Nat) (E:Nat->Prop) (T:GT) (a:aj) (hs:List (aj)):Prop:=
 ∃c XB Z H rk,qy w b0 g c XB Z H hs/\Et w (g+1) c T a hs rk Z/\Z.en=true/\Z.m<=1000000000/\Z.l.length<=1000000/\E=gX g c XB Z.A Z.Ah/\(Z.err=0\/(Z.err=T.2.2/\a=T.1/\hs=T.2.1))
section
variable {w w':World} {b0 g:Nat} {E:Nat->Prop} {T:GT} {a:aj} {hs:List (aj)}
theorem Ys.keeps (h:Ys w b0 g E T a hs) (b:Below w.heap.size w w'):Ys w' b0 g E T a hs:=by
 obtain⟨c,XB,Z,H,rk,f,e,d⟩ :=h;exact⟨c,XB,Z,H,rk,f.keeps b,e.keeps b,d⟩
theorem Ys.low (h:Ys w b0 g E T a hs):b0<=w.heap.size:=by obtain⟨c,XB,Z,H,rk,b, -⟩ :=h;exact b.low
end
def U8 (m:Nat) (A:ay) (n cp:Nat) (l:aj) (en:Bool):GR:= ⟨m,A,n,cp,l,none,false,0,0,none,0,0,en,0⟩
structure GN (w:World) (b0 g m:Nat) (A:ay) (n cp:Nat) (l:aj) (en:Bool):Prop where
 cell:Ar w g 9 (gcF (U8 m A n cp l en))
 lo:b0<=g
 own:jx .u8 w b0 5 A n cp l
 jR:∀v∈l,0<=v/\v<256
 ne:∀k,ak A=some k->k≠g
theorem GN.st {w:World} {b0 g m n cp:Nat} {A:ay} {l:aj} (h:GN w b0 g m A n cp l true) (b:m<=1000000000) (c:l.length<=1000000):Ys w b0 g (gX g (λ_=>0) (λ_=>False) A none) (gz (l.length+1) l m false) [] []:=
 ⟨λ_=>0,λ_=>False,U8 m A n cp l true,[],_, ⟨h.cell,h.lo,h.own, ⟨Own.dN,rfl,rfl,λi hi=>by simp at hi,λk a=>a.elim⟩,h.jR,rfl,λk a=> ⟨h.ne k a,rfl,by simp [U8,ak],λe=>e⟩,λk a=>by simp [U8,ak]at a,λk a=>a.elim,λk a=>absurd rfl a, ⟨ez 0,by show(0:Int)<4294967296;decide⟩,ez 0,by show(0:Int)<4294967296;decide⟩,
   .inl ⟨rfl,rfl,λ_=>rfl,l.length+1,iR _,ξ,rfl,rfl⟩,rfl,b,c,rfl, .inl rfl⟩
theorem PV (w:World) (most:Int) (m:Nat) (d:(m:Int)=max most 0):
  Calls Tryz.prog 12 #[.int .i64 most] w λe w'=>∃g,e= .returned (.pointer (some ⟨g,0,none⟩))/\GN w' w.heap.size g m none 0 0 [] false/\Below w.heap.size w w':=by
 have h:Hid (∀v:Int,v=(m:Int)->∃g,Ending.returned (.pointer (some ⟨w.heap.size,0,none⟩))= .returned (.pointer (some ⟨g,0,none⟩))/\
   GN (w.alloc (.cells #[.int .i64 v, .slice none 0 0, .pointer none, .bool false, .int .u32 0, .int .u32 0, .slice none 0 0, .bool false, .int .i64 0] 71)) w.heap.size g m none 0 0 [] false/\
   Below w.heap.size w (w.alloc (.cells #[.int .i64 v, .slice none 0 0, .pointer none, .bool false, .int .u32 0, .int .u32 0, .slice none 0 0, .bool false, .int .i64 0] 71))):=by
  rintro v rfl;exact⟨_,rfl, ⟨Ar.new w _ _ rfl (Cx rfl rfl rfl rfl rfl rfl rfl rfl rfl),ai _,jx.dN,λv hv=>by simp at hv,λk f=>by simp [ak]at f⟩,(ax _ w).alloc (ai _) _⟩
 have b:(most<0/\m=0)\/(0<most/\(m:Int)=most)\/(most=0/\m=0):=ω;clear d;rcases b with ⟨c,a⟩ | ⟨c,a⟩ | ⟨c,a⟩
 all_goals
  have i:=η a;clear a
  try subst c
  go_enter Tryz.func12,Tryz.ntmps12
  go_wp2_with fail;go_ret;exact h.out _ (τ i.out)
theorem PU (w:World) (b0 g m n cp:Nat) (A:ay) (l:aj) (h:GN w b0 g m A n cp l false):
  Calls Tryz.prog 14 #[.pointer (some ⟨g,0,none⟩)] w λe w'=>e= .returned (.tuple #[])/\GN w' b0 g m A n cp l true/\bk w w' (λk=>k=g):=by
 have f:w.cell? ⟨g,7,none⟩ =some (.bool false):=h.cell.cell (i:=7) ω;have d:=h.cell.frozen' (i:=7) ω;have a:bk w (w.setCell ⟨g,7,none⟩ (.bool true)) (λk=>k=g):=bk.setCell (S:=λk=>k=g) (bk.refl w _) (p:= ⟨g,7,none⟩) (.inl rfl) _
 have c:Hid (GN (w.setCell ⟨g,7,none⟩ (.bool true)) b0 g m A n cp l true/\bk w (w.setCell ⟨g,7,none⟩ (.bool true)) (λk=>k=g)):=
  ⟨⟨(h.cell.bK (i:=7) ω _).congr (Cx rfl rfl rfl rfl rfl rfl rfl rfl rfl),h.lo,h.own.fC a (λk b e=>h.ne k b e),h.jR,h.ne⟩,a⟩
 clear h a;go_enter Tryz.func14,Tryz.ntmps14
 go_wp2_with fail;go_end0;exact⟨rfl,c.out⟩
theorem Lh (w:World) (b0 g m:Nat) (h:GN w b0 g m none 0 0 [] false) (Bd k cp:Nat) (C:ay) (b:aj) (z:bT .u8 w Bd C k b) (x:∀v∈b,0<=v/\v<256) (j:b.length<=100000000000):
  Calls Tryz.prog 13 #[.pointer (some ⟨g,0,none⟩), .slice C k cp] w λe w'=>∃A n c,e= .returned (.tuple #[])/\GN w' b0 g m A n c b false/\bk w w' (λk=>k=g)/\∀q,ak A=some q->w.heap.size<=q:=by
 obtain⟨H,hi,r,o,l⟩ :=aL jY;have Hi:=η hi;have P:=η r;have O:=η o;have N:=η l;have T:w.cell? ⟨g,1,none⟩ =some (.slice none 0 0):=h.cell.cell (i:=1) ω;have S:w.cell? ⟨g,2,none⟩ =some (.pointer none):=h.cell.cell (i:=2) ω;have R:w.cell? ⟨g,7,none⟩ =some (.bool false):=h.cell.cell (i:=7) ω;have I:=h.own;have K:k<=100000000000:=by rw[z.1];exact j
 have a:=h.cell;have J:b0<=w.heap.size:=aw h.lo (dh a.lt)
 have L:Hid (∀A2 c2 w2,jx .u8 w2 b0 5 A2 (0+k) c2 ([]++b)->w.grownBy w2 (ak none)->(ak A2=ak none\/ak A2=some w.heap.size)->
   GN (w2.setCell ⟨g,1,none⟩ (.slice A2 k c2)) b0 g m A2 k c2 b false/\bk w (w2.setCell ⟨g,1,none⟩ (.slice A2 k c2)) (λk=>k=g)/\∀q,ak A2=some q->w.heap.size<=q):=by
  intro A2 c2 w2 t f y;rw[bS,aZ]at t
  have rS:∀q,ak A2=some q->w.heap.size<=q:=λq d=>by
   rcases y with e | e
   · rw[e]at d;simp [ak]at d
   rw[e]at d;injection d with d;omega
  have s:∀q,ak A2=some q->q≠g:=λq d=>by have:=rS q d;have:=a.lt;omega
  have u:bk w w2 (λk=>k=g):=(bk.refl w _).grown f λq d=>by simp [ak]at d
  have M:Ar w2 g 9 (gcF (U8 m none 0 0 [] false)):=((bk.refl w (λ_=>False)).grown f (λq d=>by simp [ak]at d)).ar a (λe=>e);exact⟨⟨(M.bK (i:=1) ω _).congr (Cx rfl rfl rfl rfl rfl rfl rfl rfl rfl),h.lo,t.far (p:= ⟨g,1,none⟩) (λe=>s g e rfl) _,x,s⟩,u.setCell (p:= ⟨g,1,none⟩) (.inl rfl) _,rS⟩
 clear h hi r o l j;go_enter Tryz.func13,Tryz.ntmps13
 go_wp2_with (at_builtin;(refine JY .u8 b0 5 H 1 rfl (.tmp 34) (.tmp 35) _ rfl Tryz.underlying22 Hi.out P.out O.out N.out rfl I rfl z ω ω J ?_)
              intro A2 c2 w2 t f y;have B:=((bk.refl w (λ_=>False)).grown f λq d=>by simp [ak]at d).ar a (λe=>e);have Q:=B.frozen' (i:=1) ω;have G:=B.cell (i:=1) ω)
 obtain⟨F,E,D⟩ :=L.out A2 c2 w2 t f y;go_end0;exact⟨_,_,_,rfl,F,E,D⟩
theorem a5v {w:World} {b0 g:Nat} {c:Nat->Nat} {XB:Nat->Prop} {Z:GR} {H:List HV} {hs:List (aj)} (h:qy w b0 g c XB Z H hs):∀k,c k≠0->k≠g/\ak Z.A≠some k/\ak Z.Ah≠some k/\¬XB k:=λk a=>
 ⟨λe=>a (by rw[e];exact h.cg),λe=>a (h.cA k e).2.1,λe=>a (h.cH k e).2,λe=>a (h.cX k e).2⟩
theorem a8U {w w':World} {b0 g:Nat} {c c':Nat->Nat} {XB:Nat->Prop} {Z:GR} {H:List HV} {hs:List (aj)} (h:qy w b0 g c XB Z H hs) {b1:Nat} (hD:DE b1 w c w' c'):Ext b0 w w' (gX g c XB Z.A Z.Ah) (gX g c' XB Z.A Z.Ah):=
 Ext.of (hD.2.1.more λk a=> .inr (.inr (.inr (.inr a)))) (λk a=>(h.Cr k a).1) h.low λk a=>by
  rcases a with a | a | a | a | a
  · exact .inl (.inl a)
  · exact .inl (.inr (.inl a))
  · exact .inl (.inr (.inr (.inl a)))
  · exact .inl (.inr (.inr (.inr (.inl a))))
  rcases aV k w.heap.size with b | b
  · exact .inl (.inr (.inr (.inr (.inr (by rw[<-hD.2.2 k b];exact a)))))
  exact .inr b
theorem Lg (w:World) (b0 g:Nat) (c:Nat->Nat) (XB:Nat->Prop) (Z:GR) (H:List HV) (hs:List (aj)) (h1:qy w b0 g c XB Z H hs) (T:GT) (bI gd:Nat) (M:DM) (S:DS) (y:aj) (m0 f:Nat) (O o:aj) (hp:Z.p=some ⟨gd,0,none⟩) (Cl:g+1<=bI) (hM:jg w bI gd c M S)
  (hy:∀v∈y,0<=v/\v<256) (LV:y.length<=f) (hf:hs.length+f<=1000001) (Dw:m0<=1000000000) (hh:0<hs.length) (hT:T=(O++((fx y m0).1.all++(gT f (fx y m0) m0).1),hs++(gT f (fx y m0) m0).2.1,(gT f (fx y m0) m0).2.2))
  (ap:Z.m+o.length=m0) (yV:Z.Ci=vM 0 o) (z:Z.size=(o.length:Int)) (xB:Z.Pm=false) (hA:Z.A=none) (hn:Z.n=0) (Qg:Z.cp=0) (hl:Z.l=[]) (lG:ZIn (fx y m0) (o++M.out) M S) (Sq:M.out.length<=70000) (bo:Z.en=true) (gY:Z.err=0) (n:Nat) (sJ:0<n) (Fm:n<=1000000000):
  Calls Tryz.prog 59 #[.pointer (some ⟨g,0,none⟩), .int .i64 n] w (SM w b0 g (gX g c XB Z.A Z.Ah) T (O++o) (3*f+4) n):=by
 have bt:=PL hM.refl lG (n:Int) n ω Fm ω;obtain⟨k0, -,k2, -, -, -, -, -, -⟩ :=h1.cells;rw[hp]at k2;have ck:=η bt;have HH:=η (⟨hp,Cl,xB,hA,hn,Qg,hl⟩ :_/\_/\_/\_/\_/\_/\_);have HY:=η (⟨hy,LV,hf,Dw,hh,hT⟩ :_/\_/\_/\_/\_/\_);have I:=η (⟨ap,yV,z,bo,gY⟩ :_/\_/\_/\_/\_);have H1:=η h1;have HN:=η (⟨sJ,Fm⟩ :_/\_);have cm:=η Sq;have x6:(0:Int)<n/\(n:Int)<=1000000000:=ω;clear bt lG Sq h1 hM sJ Fm hp Cl xB hA hn Qg hl hy LV hf Dw hh hT ap yV z bo gY k0;go_enter Tryz.func59,Tryz.ntmps59
 go_wp2_with fail;refine ck.out.mono ?_;rintro e w5 ⟨A5,t,d5,r,C,S5,b5,l,c5,rfl,nV,Ln,K8,ca,F9,U,hE⟩;have Qp:=nV.1;have lI:=RJ hE;have mK:(o++M.out)++b5=(o++l)++C.out:=by rw[av,F9,av]
 rw[mK]at hE;have Qo:=XO hE;obtain⟨t5,P⟩ :=Qo.pre;have ah:∀v∈l,0<=v/\v<256:=λv hv=>uy y m0 v (by rw[P];simp [hv]);have Uy:∀v∈o,0<=v/\v<256:=λv hv=>uy y m0 v (by rw[P];simp [hv])
 have B7:o.length+l.length<=m0:=by
  have h9:=Ia y m0;rw[P]at h9;simp only [List.length_append]at h9;omega
 have nT:∀k,k<w.heap.size->c k=0->c5 k=0:=λk b e=>by rw[K8.2.2 k b];exact e
 have h5:qy w5 b0 g c5 XB Z H hs:=H1.out.fC K8.2.1 (a5v H1.out) (λk b=> ⟨by have:=(Ln.cb k b).1;have:=H1.out.lo;have:=HH.out.2.1;omega,(Ln.cb k b).2⟩) nT;have bl:=a8U H1.out K8;have S9:=zt Z.Ci A5 t d5 w5.heap.size l w5 nV.rd (ai _) (zr ah) h5.sm.1 (τ HN.out)
 have ab:iz (mq (iz Z.Ci) l t)=vM 0 (o++l):=by
  rw[Qp,I.out.2.1];exact Nw ω Uy
 rw[ab]at S9;obtain⟨V,F⟩ :=ν (vM 0 (o++l));rw[F]at S9;obtain⟨-, -, -, -,q4, -⟩ :=h5.cells;obtain⟨s0,am⟩ :=ν (Z.Ci);rw[am]at S9 q4;have Lq:0<=V/\V<4294967296:=by rw[<-F];exact KQ ω (Zi Uy ah)
 have RP:=η S9;have H5:=η (⟨h5,bl,Ln,nV⟩ :_/\_/\_/\_);have HE:=η (⟨hE,Qo,B7,F,lI,Qp,U⟩ :_/\_/\_/\_/\_/\_/\_);have cj:=η Lq;clear S9 h5 bl Ln nV hE Qo P t5 ah Uy B7 F lI Qp U ab am Lq mK F9 K8 nT ca
 go_wp2_with fail;refine RP.out.mono ?_;rintro e w6 ⟨rfl,nj⟩;have h6:=H5.out.1.keeps nj;have Sd:=H5.out.2.2.1.keeps nj;have kP:=H5.out.2.2.2.keeps nj;have bi:=H5.out.2.1.trans (Ext.of (bk.bJ (S:=gX g c5 XB Z.A Z.Ah) nj) (λk b=>(H5.out.1.Cr k b).1) H5.out.1.low (λk b=> .inl b));obtain⟨k0, -,k2, -,k4,bL, -, -, -⟩ :=h6.cells;have z0:=h6.S4 (i:=0) ω;have z4:=h6.S4 (i:=4) ω;have z5:=h6.S4 (i:=5) ω;rw[HH.out.1]at k2;rw[I.out.2.2.1]at bL;have Qq:l.length=t:=HE.out.2.2.2.2.2.1.symm;obtain⟨hE,Qo,B7,F,lI,Qp,U⟩ :=HE.out;have cc:l.length<=Z.m:=by have:=I.out.1;omega
 obtain⟨m1,rU⟩ :=ν (Z.m-t);have Fj:(Z.m:Int)-(t:Int)=(m1:Int):=ω;have cx:IntKind.i64.wrap ((Z.m:Int)-(t:Int))=(m1:Int):=by rw[Fj];exact aM _ (ε HY.out.2.2.2.1 I.out.1)
 have cz:(0:Int)<=(m1:Int)/\(m1:Int)<=1000000000:=by have:=HY.out.2.2.2.1;have:=I.out.1;omega
 have cB:(o.length:Int)+(t:Int)<=1000000000/\(0:Int)<=(o.length:Int)/\(0:Int)<=(t:Int)/\(t:Int)<=1000000000:=by have:=HY.out.2.2.2.1;omega
 have cA:IntKind.u32.wrap (t:Int)=(t:Int):=IntWalk.u32_in _ ω;obtain⟨J,z⟩ :=ν ((o.length:Int)+(t:Int):Int);have cv:IntKind.u32.wrap ((o.length:Int)+(t:Int))=J:=by rw[z];exact IntWalk.u32_in _ ω
 obtain⟨W,hW⟩ :=ν (((w6.setCell ⟨g,4,none⟩ (.int .u32 V)).setCell ⟨g,5,none⟩ (.int .u32 J)).setCell ⟨g,0,none⟩ (.int .i64 (m1:Int)))
 have d:bk w6 W (λk=>k=g):=by
  rw[<-hW];exact(((bk.refl w6 (λk=>k=g)).setCell (p:= ⟨g,4,none⟩) (.inl rfl) _).setCell (p:= ⟨g,5,none⟩) (.inl rfl) _).setCell (p:= ⟨g,0,none⟩) (.inl rfl) _
 have gu:Ar W g 9 (gcF { Z with Ci:=V,size:=J,m:=m1 }):=by
  rw[<-hW];exact(((h6.cell.bK (i:=4) ω _).bK (i:=5) ω _).bK (i:=0) ω _).congr (Cx rfl rfl rfl rfl rfl rfl rfl rfl rfl)
 have h7:qy W b0 g c5 XB { Z with Ci:=V,size:=J,m:=m1 } H hs:=h6.turn d gu (h6.a4A d) ⟨rfl,rfl,rfl⟩ ⟨cj.out,by show 0<=J/\J<4294967296;omega⟩;have Y:=Sd.aside d (λk b=>by rw[b];exact h6.cg);have AY:=bi.trans (Ext.of (d.more λk b=>(.inl b:gX g c5 XB Z.A Z.Ah k)) (λk b=>(h6.Cr k b).1) h6.low (λk b=> .inl b))
 have an:bT .u8 W W.heap.size A5 t l:=(d.ri kP.rd (ai _) (λh0 ad e b=>by
  have e2:ak A5=some ad.block:=by rw[e];rfl
  have G:=(kP.2.lt e2).1;have h9:ad.block=g:=b;have:=HH.out.2.1;omega)).more d.size
 have ao:∀ae,ae=hs->Et W (g+1) c5 T ((O++o)++l) ae (3*f+4) { Z with Ci:=V,size:=J,m:=m1 }:=λae e=>by
  subst e;obtain⟨hp,Cl,xB,hA,hn,Qg,hl⟩ :=HH.out;obtain⟨hy,LV,hf,Dw,hh,hT⟩ :=HY.out;exact .inr ⟨bI,gd,C,S5,y,m0,f,O,o++l,hp,Cl,Y,hy,LV,hf,Dw,hh,hT,by show m1+_=m0;rw[ag];have:=I.out.1;omega,by rw[av],F.symm,by show J=_;rw[ag];omega, .inl ⟨xB,rfl,hA,hn,Qg,hl,Qo,τ cm.out⟩⟩
 have LJ:m1<=1000000000:=by have:=HY.out.2.2.2.1;have:=I.out.1;omega
 have bs:Z.l.length<=1000000:=by rw[HH.out.2.2.2.2.2.2];simp
 have X:Hid (∀v:Int,((v=0/\0<l.length)\/(v≠0/\l=[]/\O++o=T.1/\hs=T.2.1/\v=T.2.2))->SM w b0 g (gX g c XB Z.A Z.Ah) T (O++o) (3*f+4) n (.returned (.tuple #[.slice A5 t d5, .int .i64 v])) W):=λv hv=>by
  refine⟨A5,t,d5,l,v,c5,XB,_,H,hs,3*f+4,rfl,an,lI,h7,ao hs rfl,I.out.2.2.2.1,I.out.2.2.2.2,LJ,bs,AY, ?_⟩;rcases hv with ⟨h,h'⟩ | h
  · exact .inl ⟨h, .inr ⟨rfl,h'⟩⟩
  exact .inr h
 have Ik:T.1=O++((fx y m0).1.all++(gT f (fx y m0) m0).1)/\T.2.1=hs++(gT f (fx y m0) m0).2.1/\T.2.2=(gT f (fx y m0) m0).2.2:=by rw[HY.out.2.2.2.2.2];exact⟨rfl,rfl,rfl⟩
 have ac:l=[]->(fx y m0).2≠8->(fx y m0).1.all=o->O++o=T.1/\hs=T.2.1/\(fx y m0).2=T.2.2:=λe1 e2 e3=>by
  obtain⟨t1,t2,t3⟩ :=Ik;rw[U9 e2]at t1 t2 t3;exact⟨by rw[t1,e3];simp,by rw[t2];simp,t3.symm⟩
 have HK:=η (⟨h7,Y,AY,ac,Ik,LJ,z,F⟩ :_/\_/\_/\_/\_/\_/\_/\_);have HW:=η hW
 have ct:W.cell? ⟨g,2,none⟩ =some (.pointer (some ⟨gd,0,none⟩)):=by
  obtain⟨-, -,q2, -⟩ :=h7.cells;rw[q2];show some (Value.pointer Z.p)=_;rw[HH.out.1]
 unfold Ng at hE;have RQ:=η hE;have N:=η Qp;clear h6 Sd kP bi nj hE Qo B7 F lI Qp U cc rU z hW d gu h7 Y AY an ao LJ bs Ik ac Qq;have d:=RQ.out;clear RQ;rcases d with ⟨rfl,q1,q2⟩ | ⟨rfl,q1,q2,q3⟩ | ⟨q1,q2,q3,q4,q5,q6,q7⟩
 · have Ds:(0:Int)<(t:Int)/\0<t:=by have:=N.out;have:=HN.out;omega
   have hf:=η (X.out 0 (.inl ⟨rfl,τ N.out⟩));clear q2 X
   go_wp2_with fail;rw[HW.out];go_returns;exact hf.out
 · by_cases Ds:0<t
   · have aE:(0:Int)<(t:Int):=ω;have hf:=η (X.out 0 (.inl ⟨rfl,τ N.out⟩));clear q2 q3 X
     go_wp2_with fail;rw[HW.out];go_returns;exact hf.out
   have E:l=[]:=aG (τ N.out)
   have hf:=η (X.out 5 (.inr ⟨δ,E,by
    rcases q3 with ⟨s,q3,q4⟩ | ⟨q3,_⟩
    · obtain⟨e1,e2⟩ :=N5 q3 q4;rw[q2,aA,E,aA]at e2;have:=HK.out.2.2.2.1 E (by rw[e1];decide) e2;rw[e1]at this;exact this
    rw[E]at q3;simp at q3⟩))
   have aE:¬(0:Int)<(t:Int):=ω;clear q2 q3 X
   go_wp2_with fail;rw[HW.out];go_returns;exact hf.out
 have Ds:t=0:=by have:=N.out;rw[q4]at this;simpa using this
 have bB:=η Ds
 have u:(fx y m0).1.all=o:=by
  have e2:=q7.all;rw[q6,aA,q4,aA]at e2;exact e2
 have aE:¬(0:Int)<(t:Int):=ω;clear Ds;by_cases Q:r=8
 rotate_left
 · have cw:(r==8)=false:=by simpa using Q
   have hf:=η (X.out r (.inr ⟨q1,q4,by
    have:=HK.out.2.2.2.1 q4 (by rw[<-q3];exact Q) u;rw[<-q3]at this;exact this⟩))
   clear q1 q2 q3 q5 q6 q7 X Q u
   go_wp2_with fail;rw[HW.out];go_returns;exact hf.out
 obtain rfl:r=8:=Q;obtain⟨h7,Y,AY, -,Ik,LJ,z,F⟩ :=HK.out;have D:(fx y m0).2=8:=q3.symm;have bp:S5.err=8:=by rw[q7.err];exact D
 obtain⟨bx,bv⟩ :=q7.at8 D;have al:=a8v (s:=start (gK y) m0) (.start (dO.gK _) m0) D;have vp:=bv.even (.inr (.inr al));have zg:=bx.x;rw[<-zg,iw]at vp;have ce:=Y.mC.le;have tX:=L0 Y.refl bp ω
 have pX:gK (C.B.drop (C.a/8))=(fx y m0).1.x:=by
  rw[zY,<-zg];unfold rb;rw[show 8*(C.a/8)=C.a by omega]
 have L:∀v∈C.B.drop (C.a/8),0<=v/\v<256:=λv hv=>Y.mC.jR v (bu hv);have K:C.B.drop (C.a/8)=ke (fx y m0).1.x:=by rw[<-pX,vI L]
 obtain⟨j,ch,NZ, -⟩ :=Q0 D HY.out.1;have Ka:(C.B.drop (C.a/8)).length<=y.length:=by rw[K,NZ,az];omega
 have oX:g<W.heap.size:=h7.cell.lt;have be:=h7.cell;have Gu:=η tX;have cn:=η (⟨D,L,K,Ka⟩ :_/\_/\_/\_);have cl:=η (⟨q4,u⟩ :_/\_);clear vp zg ce tX D bp al bx bv pX L K Ka NZ ch j q1 q2 q3 q5 q6 q7 X h7 Y AY q4 Ik LJ z F u
 go_wp2_with fail;rw[HW.out];refine Gu.out.mono ?_;rintro e w7 ⟨A7,k7,c7,rfl,yY,c8,Dp,Zu,Yf⟩;have ci:c5 g=0:=HK.out.1.cg;have rT:=Zu.2.1.ar be (λe=>e ci);have cq:=rT.frozen' (i:=1) ω;have co:=rT.frozen' (i:=3) ω;have cs:=rT.cell (i:=1) ω;have cr:=rT.cell (i:=3) ω
 have hf:Hid (SM w b0 g (gX g c XB Z.A Z.Ah) T (O++o) (3*f+4) n (.returned (.tuple #[.slice none 0 0, .int .i64 0])) ((w7.setCell ⟨g,1,none⟩ (.slice A7 k7 c7)).setCell ⟨g,3,none⟩ (.bool true))):=by
  obtain⟨h7,Y,AY, -,Ik,LJ,z,F⟩ :=HK.out;obtain⟨D,L,K,Ka⟩ :=cn.out;obtain⟨hp,Cl,xB,hA,hn,Qg,hl⟩ :=HH.out;obtain⟨hy,LV,hf,Dw,hh,hT⟩ :=HY.out;obtain⟨E,u⟩ :=cl.out;have S7:∀q,ak A7=some q->W.heap.size<=q:=λq R=>(yY.2.lt R).1;have Q5:ak A7≠some g:=λe=>by have:=S7 g e;omega
  have ZU:∀k,k<W.heap.size->c5 k=0->c8 k=0:=λk b e=>by rw[Zu.2.2 k b];exact e
  have G:qy w7 b0 g c8 XB { Z with Ci:=V,size:=J,m:=m1 } H hs:=h7.fC Zu.2.1 (a5v h7) (λk b=> ⟨ε ((Dp.cb k b).1) h7.lo,(Dp.cb k b).2⟩) ZU;have d:bk w7 ((w7.setCell ⟨g,1,none⟩ (.slice A7 k7 c7)).setCell ⟨g,3,none⟩ (.bool true)) (λk=>k=g):=((bk.refl w7 (λk=>k=g)).setCell (p:= ⟨g,1,none⟩) (.inl rfl) _).setCell (p:= ⟨g,3,none⟩) (.inl rfl) _;have cd:∀k,ak Z.Ah=some k->k<W.heap.size:=λk b=>(h7.hdr.own.lt b).2
  refine⟨none,0,0,[],0,c8,XB,{ Z with Ci:=V,size:=J,m:=m1,A:=A7,n:=k7,cp:=c7,l:=C.B.drop (C.a/8),Pm:=true },H,hs,3*f+3,rfl, ⟨rfl,Rd.dN⟩,aF _, ⟨?_,h7.lo, ?_,G.hdr.fC d (λk b e=>(G.cH k e).1 b) (λk b e=>(G.cX k e).1 b),L,G.cg,λq R=> ⟨λe=>Q5 (by rw[R,e]),Yf q R,λe=> ?_,λe=> ?_⟩,G.cH,G.cX,λq R=> ⟨(G.cb q R).1,aB (G.cb q R).2 d.size⟩,G.sm⟩,
   .inr ⟨bI,gd,_,S5,y,m0,f,O,o,hp,Cl,Dp.aside d (λk b=>by rw[b];exact G.cg),hy,LV,hf,Dw,hh,hT, ?_,by rw[aA], ?_, ?_, .inr ⟨rfl,rfl,D,u.symm,K,by show(C.B.drop (C.a/8)).length<=f;omega⟩⟩,I.out.2.2.2.1,I.out.2.2.2.2,LJ,by show(C.B.drop (C.a/8)).length<=1000000;omega,AY.trans ⟨?_, ?_,λk b=> ?_⟩, .inl ⟨rfl, .inl ω⟩⟩
  · exact((G.cell.bK (i:=1) ω _).bK (i:=3) ω _).congr (Cx rfl rfl rfl rfl rfl rfl rfl rfl rfl)
  · exact((yY.more h7.low).up.far (p:= ⟨g,1,none⟩) Q5 _).far (p:= ⟨g,3,none⟩) Q5 _
  · have:=S7 q R;have:=cd q e;omega
  · have:=S7 q R;have:=(h7.hdr.xb q e).2.1;omega
  · show m1+o.length=m0;have:=I.out.1;have:=Fj;have:=bB.out;omega
  · show V=_;rw[<-F,E,aA]
  · show J=_;have:=bB.out;omega
  · exact((Zu.1.mono (τ h7.lo)).setCell (p:= ⟨g,1,none⟩) h7.lo _).setCell (p:= ⟨g,3,none⟩) h7.lo _
  · exact((Zu.2.1.more λk b=> .inr (.inr (.inr (.inr b)))).setCell (p:= ⟨g,1,none⟩) (.inl (.inl rfl)) _).setCell (p:= ⟨g,3,none⟩) (.inl (.inl rfl)) _
  rcases b with b | b | b | b | b
  · exact .inl (.inl b)
  · exact .inr (S7 k b)
  · exact .inl (.inr (.inr (.inl b)))
  · exact .inl (.inr (.inr (.inr (.inl b))))
  rcases aV k W.heap.size with h | h
  · exact .inl (.inr (.inr (.inr (.inr (by rw[<-Zu.2.2 k h];exact b)))))
  exact .inr h
 clear yY Dp Zu Yf rT be Gu
 go_wp2_with fail;go_returns;exact hf.out
theorem Ez.push {w w1 w2:World} {b0:Nat} {XB:Nat->Prop} {A A2:ay} {n cp c2:Nat} {H:List HV} {hs:List (aj)} (h:Ez w b0 XB A n cp H hs) (c:Below w.heap.size w w1) (x:aj) {X:ay} {m cc:Nat} (y:m<=cc) (o:cc<=maxLen) (q:bT .u8 w1 w1.heap.size X m (vO x))
  (r:∀k,ak X=some k->w.heap.size<=k) (B:b0<=w.heap.size) (g:bk w1 w2 (λk=>ak A=some k)) (v:Own w2 b0 31 11 A2 (n+1) c2 (cat (n*11) (mb H) (mb [xR x (.slice X m cc)]))) (j:∀k,ak A2=some k->ak A=some k\/w1.heap.size<=k):
  Ez w2 b0 (λk=>XB k\/(0<m/\ak X=some k)) A2 (n+1) c2 (H++[xR x (.slice X m cc)]) (hs++[x]):=by
 have p:0<m->∀k,ak X=some k->k<w1.heap.size:=λb k a=>by
  obtain⟨d,rfl,z,_⟩ :=q.2 b;simp [ak]at a;omega
 have s:∀k,ak A=some k->k<w.heap.size:=λk a=>(h.own.lt a).2;refine⟨v.congr λi hi=>by rw[h.n_,Fb],by rw[h.n_,ag];rfl,by rw[ag,ag,h.len];rfl,λi hi=> ?_,λk a=> ?_⟩
 · rw[ag]at hi;by_cases l:i<hs.length
   · obtain⟨I,u,G,F,E,D,C,t⟩ :=h.ex i l;refine⟨I,u,G, ?_,E,D, ?_,λd e b=> .inl (t d e b)⟩
     · rw[aq,bE (by rw[h.len];exact l),aq,bE l,<-aq,<-aq];exact F
     rw[aq,bE l,<-aq];have f:=(bk.bJ (S:=λk=>ak A=some k) c).trans g λk a=> .inl a;exact(f.ri C (ai _) (λb d e hF=>(h.xb _ (t d e b)).2.2 hF)).more f.size
   obtain rfl:i=hs.length:=by simp at hi;omega
   refine⟨X,m,cc, ?_,y,o, ?_,λd e b=> .inr ⟨b,by rw[e];rfl⟩⟩
   · rw[aq,bA (by rw[h.len];exact ai _),h.len,aq,bA (ai _),dG];rfl
   rw[aq,bA (ai _),dG];exact(g.ri q (ai _) (λb d e hF=>by have h5:=s _ hF;have h6:=r d.block (by rw[e];rfl);omega)).more g.size
 rcases a with a | ⟨b,a⟩
 · have f:=h.xb k a;refine⟨f.1,ε c.size g.size,λe=> ?_⟩;rcases j k e with h4 | h4
   · exact f.2.2 h4
   have:=c.size;omega
 have f:=r k a;have h4:=p b k a;refine⟨ω,τ g.size,λe=> ?_⟩;rcases j k e with h5 | h5
 · have:=s k h5;omega
 omega
theorem Lf (w:World) (b0 g:Nat) (c:Nat->Nat) (XB:Nat->Prop) (Z:GR) (H:List HV) (hs:List (aj)) (T:GT) (a:aj) (f:Nat) (h1:qy w b0 g c XB Z H hs) (hp:Z.p=none) (xB:Z.Pm=false) (y:∀k,c k=0) (hf:Z.l.length<f) (I:hs.length+f<=1000001)
  (hT:T=(a++(gz f Z.l Z.m (decide (0<hs.length))).1,hs++(gz f Z.l Z.m (decide (0<hs.length))).2.1,(gz f Z.l Z.m (decide (0<hs.length))).2.2)) (D:Z.en=true) (gY:Z.err=0) (hm:Z.m<=1000000000) (mf:Z.l.length<=1000000):
  Calls Tryz.prog 57 #[.pointer (some ⟨g,0,none⟩)] w (zM w b0 g (gX g c XB Z.A Z.Ah) T a (3*f+2)):=by
 obtain⟨f',rfl⟩ :∃f',f=f'+1:= ⟨f-1,ω⟩
 have bad:Hid (∀v w1,Below w.heap.size w w1->gz (f'+1) Z.l Z.m (decide (0<hs.length))=([],[],v)->v≠0->zM w b0 g (gX g c XB Z.A Z.Ah) T a (3*(f'+1)+2) (.returned (.int .i64 v)) w1):=λv w1 hb e Q=>by
  have L:=hT;rw[e]at L;refine⟨v,c,XB,Z,H,hs,3*(f'+1)+2,rfl,h1.keeps hb,Et.keeps (.inl ⟨hp,xB,y,f'+1,hf,I,rfl,hT⟩) hb,D,gY,hm,mf,Ext.of (bk.bJ hb) (λk b=>(h1.Cr k b).1) h1.low (λk b=> .inl b), .inr ⟨Q,by rw[L];simp,by rw[L];simp,by rw[L]⟩⟩
 have good:Hid (kg Z.l=0->¬(Z.l=[]/\0<hs.length)->∀(U:World) (C:Nat->Nat) (YK:Nat->Prop) (Z':GR) (H':List HV) (bI gd:Nat) (M:DM) (S:DS),qy U b0 g C YK Z' H' (hs++[Z.l])->Z'.p=some ⟨gd,0,none⟩->g+1<=bI->jg U bI gd C M S->ZIn (fx (Z.l.drop (vk Z.l)) Z.m) ([]++M.out) M S->M.out.length<=70000->
   (Z'.m=Z.m/\Z'.Ci=0/\Z'.size=0/\Z'.Pm=false/\Z'.A=none/\Z'.n=0/\Z'.cp=0/\Z'.l=[]/\Z'.en=true/\Z'.err=0)->Ext b0 w U (gX g c XB Z.A Z.Ah) (gX g C YK Z'.A Z'.Ah)->zM w b0 g (gX g c XB Z.A Z.Ah) T a (3*(f'+1)+2) (.returned (.int .i64 0)) U):=by
  intro hq cG U C YK Z' H' bI gd M S k1 k2 k3 k4 k5 k6 ⟨z1,z2,z3,z4,z5,z6,z7,z8,z9,cv⟩ k7;have L:=hT;rw[Ul (by simpa using cG) hq]at L;refine⟨0,C,YK,Z',H',hs++[Z.l],3*f'+4,rfl,k1, .inr ⟨bI,gd,M,S,Z.l.drop (vk Z.l),Z.m,f',a,[],k2,k3,k4,λv hv=>h1.jR v (bu hv),by rw[az];omega,by rw[ag];simp;omega,hm,by rw[ag];simp, ?_,by rw[z1];rfl,by rw[aA],by rw[z2];exact(YZ (s:=0) ω).symm,by rw[z3];rfl, .inl ⟨z4,rfl,z5,z6,z7,z8,k5,k6⟩⟩,z9,cv,by rw[z1];exact hm,by rw[z8];simp,k7, .inl ⟨rfl,ω⟩⟩;rw[L,av];rfl
 have V8:Z.nh=hs.length:=h1.hdr.n_.trans h1.hdr.len;obtain⟨k0,ki, -, -, -, -,k6,k7, -⟩ :=h1.cells;have ho:=h1.own;have Y:=h1.jR;have H1:=η h1;have HB:=η (⟨hf,I,hm,mf,y,hp,xB,D,gY⟩ :_/\_/\_/\_/\_/\_/\_/\_/\_);obtain⟨A,hA⟩ :=ν (Z.A);obtain⟨n,hn⟩ :=ν (Z.n);obtain⟨d,hd⟩ :=ν (Z.cp);obtain⟨l,hl⟩ :=ν (Z.l);obtain⟨nh,Ss⟩ :=ν (Z.nh);rw[hA,hn,hd,hl]at ho;rw[hA,hn,hd]at ki;rw[hl]at bad good Y mf;rw[Ss]at k6 V8;rw[D]at k7;have fz:=ho.1;have fI:=ho.jT;have HZ:=η (⟨hA,hn,hd,hl,Ss⟩ :_/\_/\_/\_/\_);by_cases oy:n=0/\0<nh
 · obtain⟨rfl,Q⟩ :=oy;have al:l=[]:=aG fz.symm;have cu:=η (bad.out 8 w (ax _ _) (by rw[al,aS (by omega:0<hs.length)];exact Li _ _) δ);have cq:(0:Int)<(nh:Int):=ω;clear bad good h1 ho fz hT hf I hA hn hd hl Ss V8 al Y fI mf hm hp xB y D gY;go_enter Tryz.func57,Tryz.ntmps57
   go_wp2_with fail;go_ret;exact cu.out
 have Fo:¬(l=[]/\0<hs.length):=λh=>oy ⟨by rw[fz,h.1];rfl,ω⟩;have cs:=η (R4 w w.heap.size n d A l ho.rd (ai _) ω fI Y);have r:(0<n)\/(n=0/\nh=0):=ω;obtain⟨Ah,XX⟩ :=ν (Z.Ah);obtain⟨ch,ao⟩ :=ν (Z.ch);obtain⟨i1,hi,bL,bB,bx⟩ :=aL AV;have HI:=η (⟨hi,bL,bB,bx⟩ :_/\_/\_/\_);obtain⟨i0,ji,cB,bv,cz⟩ :=aL jY;by_cases hq:kg l=0
 rotate_left
 · have u:=η (λw1 hb=>bad.out (kg l) w1 hb (Uk (by simpa using Fo) hq) hq);have HQ:=η hq;clear bad good h1 ho hT hf I hA hn hd hl Ss V8 Y fI mf hm hp xB y D gY oy Fo fz;rcases r with Q | ⟨rfl,rfl⟩
   all_goals
    try (have cq:¬(n:Int)=0/\(0:Int)<(n:Int):=ω)
    try (have db:((n:Int)==0)=false:=ξ)
    clear hq;go_enter Tryz.func57,Tryz.ntmps57
    go_wp2_with fail;refine cs.out.mono ?_;rintro e w1 ⟨X,m,cc,xl,Fk,V,hr,hX,q,(⟨Q,_⟩ | ⟨Q,rfl⟩)⟩
    · exact absurd Q HQ.out
    have ah:=η (λo=>q.alloc q.size o);obtain⟨v,hv⟩ :=ν (kg l);rw[hv]at u Q⊢;have dz:(v != 0)=true:=by simpa using Q
    have du:(v==0)=false:=by simpa using Q
    clear hr hX q hv;unfold hagg hz;dsimp only
    go_wp2_with fail;go_ret;exact u.out _ (ah.out _)
 have Q:0<n:=by
  rcases r with h | ⟨h,_⟩
  · exact h
  have al:l=[]:=aG ω;rw[al]at hq;exact absurd hq δ
 clear r;have dk:=η (λU C YK Z' H' bI gd M S=>good.out hq Fo U C YK Z' H' bI gd M S);obtain⟨J,bi⟩ :=ν (vk l);have hJ:J<=n:=by rw[<-bi,fz];exact Nk l
 have oJ:∀W,(Instr.slice 22 (.slice A n d) (some (.int .i64 (J:Int))) none none).run Tryz.prog W= .ok (.slice (dr A d J) (n-J) (d-J)) W:=λW=>cZ (P:=Tryz.prog) 22 5 Tryz.underlying22 ji bv A n d hJ W;obtain⟨A9,Ig⟩ :=ν (dr A d J);obtain⟨n9,LK⟩ :=ν (n-J);obtain⟨d9,Qh⟩ :=ν (d-J);rw[Ig,LK,Qh]at oJ;have ee:(0:Int)<=(J:Int)/\(J:Int)<=(n:Int)/\(n:Int)<=1000000:=ω;have HQ:=η hq;have HJ:=η (⟨bi,hJ,Ig,LK,Qh,fz,Y,mf,fI⟩ :_/\_/\_/\_/\_/\_/\_/\_/\_);have CV:=η oJ;have O:=η (⟨XX,ao⟩ :_/\_);rw[XX,ao]at k6;have dA:nh<=1000000:=by rw[V8];omega
 clear bad good h1 ho hT hf I hA hn hd hl Ss V8 Y fI mf hm hp xB y D gY oy Fo fz bi Ig LK Qh hJ oJ hi bL bB bx ji cB bv cz XX ao
 try (have cq:¬(n:Int)=0/\(0:Int)<(n:Int):=ω)
 try (have db:((n:Int)==0)=false:=ξ)
 clear hq;go_enter Tryz.func57,Tryz.ntmps57
 go_wp2_with fail;refine cs.out.mono ?_;rintro e w1 ⟨X,m,cc,xl,Fk,V,hr,hX,q,(⟨Q,mf,rfl⟩ | ⟨Q,_⟩)⟩
 case inr=>exact absurd HQ.out Q
 subst mf;obtain⟨hv,G⟩ :=ν (xR l (.slice X m cc));have an:hv.ex= .slice X m cc:=by rw[<-G];rfl
 rw[G,HJ.out.1]
 have ah:=λt=>Ar.new w1 #[.bool hv.tx, .bool hv.sm, .int .u32 hv.tm, .int .u8 hv.fl, .int .u8 hv.sy, .slice X m cc, .bool hv.hE, .string hv.nm, .string hv.cm, .bool hv.hN, .bool hv.hC] t (m:=11) (f:=hf hv) rfl (λi hi=>by
  rcases qU hi with rfl | rfl | rfl | rfl | rfl | rfl | rfl | rfl | rfl | rfl | rfl;all_goals first | rfl | exact aN some an.symm)
 have bo:=η (⟨Fk,V,hr,hX,q,G⟩ :_/\_/\_/\_/\_/\_);have da:g<w1.heap.size:=by have:=H1.out.cell.lt;have:=q.size;omega
 clear Fk V hr hX q Q;have GJ:=η an;unfold hagg;rw[an];clear an G;go_upto_region 6 with fail
 obtain⟨o,ho⟩ :=ν ((Obj.cells #[.bool hv.tx, .bool hv.sm, .int .u32 hv.tm, .int .u8 hv.fl, .int .u8 hv.sy, .slice X m cc, .bool hv.hE, .string hv.nm, .string hv.cm, .bool hv.hN, .bool hv.hC] 31));have rS:=ah 31;have u:=bo.out.2.2.2.2.1.alloc bo.out.2.2.2.2.1.size o;have pE:Below w1.heap.size w1 (w1.alloc o):=(ax _ _).alloc (ai _) o;rw[ho]at rS⊢;obtain⟨w2,ce⟩ :=ν (w1.alloc o);rw[ce]at rS u pE⊢;obtain⟨K,hK⟩ :=ν (w1.heap.size);rw[hK]at rS da⊢;have ec:¬K=g:=ω;have eb:¬g=K:=ω;obtain⟨r0,r1,r2,r3,r4,r5,r6,r7,r8,r9,xd⟩ :=Qj rS;rw[GJ.out]at r5;have z:=H1.out.keeps u;obtain⟨g0,g1, -, -, -, -,g6, -⟩ :=z.cells;have z6:=z.S4 (i:=6) ω;obtain⟨N,hN⟩ :=ν (Z.nh);have ea:N<=1000000:=by rw[<-hN,HZ.out.2.2.2.2];omega
 rw[O.out.1,hN,O.out.2]at g6
 have cr:∀o,(w2.alloc o).cell? ⟨g,6,none⟩ =some (.slice Ah N ch):=λo=>by
  have h:=(z.cell.alloc o).cell (i:=6) ω;rw[h,<-O.out.1,<-O.out.2,<-hN];rfl
 have ac:=z.hdr.own;rw[O.out.1,hN,O.out.2]at ac;have HN:=η hN;clear hN;have cJ:b0<=w2.heap.size:=z.low;have bp:=η (⟨z,u,pE,hK⟩ :_/\_/\_/\_);have cQ:=NW w2 hv 31;rw[GJ.out]at cQ;have dd:=cr (.cells #[.bool hv.tx, .bool hv.sm, .int .u32 hv.tm, .int .u8 hv.fl, .int .u8 hv.sy, .slice X m cc, .bool hv.hE, .string hv.nm, .string hv.cm, .bool hv.hN, .bool hv.hC] 31);clear cr;have yZ:∀j,j<1*11->(mb [hv] j).oneCell'=true:=λj _=>Fc (λx hx=>by simp at hx;subst hx;exact⟨X,m,cc,GJ.out⟩) j;clear ah rS z u pE ce hK ho
 go_region_law
  ((refine Ru b0 i1 rfl (.tmp 42) (.tmp 44) rfl HI.out.1 HI.out.2.1 HI.out.2.2.1 HI.out.2.2.2 rfl (ac.alloc _) rfl cQ yZ ω ξ ?_)
   intro R C w5 kP mS iZ;have nT:bk w2 w5 (λk=>ak Ah=some k):=(((bk.refl w2 (λk=>ak Ah=some k)).drew).alloc _).grown mS (λk b=> .inl b);have gW:=nT.ar bp.out.1.cell (λe=>(bp.out.1.cH g (by rw[O.out.1];exact e)).1 rfl);have ct:=gW.frozen' (i:=6) ω;have cw:w5.cell? ⟨g,6,none⟩ =some (.slice Z.Ah Z.nh Z.ch):=gW.cell (i:=6) ω)
 all_goals
  obtain⟨z,u,pE,hK⟩ :=bp.out;obtain⟨Fk,V,hr,hX,q,G⟩ :=bo.out;obtain⟨hf,I,hm,mf,y,hp,xB,D,gY⟩ :=HB.out;have cD:=u.size
  have Dn:∀k,ak R=some k->ak Ah=some k\/w2.heap.size<=k:=λk b=>by
   rcases iZ with e | e
   · exact .inl (e▸b)
   rw[e]at b;injection b with b;exact .inr (by rw[<-b];simp)
  have co:∀k,ak Ah=some k->k≠g/\k<w.heap.size:=λk b=> ⟨(z.cH k (by rw[O.out.1];exact b)).1,(H1.out.hdr.own.lt (by rw[O.out.1];exact b)).2⟩;have oX:g<w.heap.size:=H1.out.cell.lt
  have bl:∀k,ak R=some k->k≠g:=λk b=>by
   rcases Dn k b with e | e
   · exact(co k e).1
   omega
  have be:∀k,(XB k\/(0<m/\ak X=some k))->k≠g:=λk b=>by
   rcases b with b | ⟨_,b⟩
   · exact(z.cX k b).1
   have:=hX k b;omega
  have cn:Ez w5 b0 (λk=>XB k\/(0<m/\ak X=some k)) R (N+1) C (H++[hv]) (hs++[l]):=by
   have h9:=H1.out.hdr;rw[O.out.1,HN.out,O.out.2]at h9;have h8:=Ez.push h9 u l Fk V ((hr.below pE).more pE.size) hX H1.out.low nT (A2:=R) (c2:=C) (by rw[G];exact kP) Dn;rw[G]at h8;exact h8
  have r:bk w5 (w5.setCell ⟨g,6,none⟩ (.slice R (N+1) C)) (λk=>k=g):=bk.setCell (S:=λk=>k=g) (bk.refl w5 _) (p:= ⟨g,6,none⟩) (.inl rfl) _;have mK:∀k,ak Z.A=some k->k<w.heap.size:=λk b=>(H1.out.own.lt b).2
  have h3:qy (w5.setCell ⟨g,6,none⟩ (.slice R (N+1) C)) b0 g c (λk=>XB k\/(0<m/\ak X=some k)) { Z with Ah:=R,nh:=N+1,ch:=C } (H++[hv]) (hs++[l]):=
   ⟨(gW.bK (i:=6) ω _).congr (Cx rfl rfl rfl rfl rfl rfl rfl rfl rfl),z.lo,(z.own.fC nT (λk b e=>(z.cA k b).2.2.1 (by rw[O.out.1];exact e))).fC r (λk b e=>(z.cA k b).1 e),cn.fC r (λk b e=>bl k e b) (λk b e=>be k e b),z.jR,z.cg,λk b=> ⟨(z.cA k b).1,y k,λe=>by
     rcases Dn k e with e | e
     · exact(z.cA k b).2.2.1 (by rw[O.out.1];exact e)
     · have:=mK k b;omega,λe=>by
     rcases e with e | ⟨_,e⟩
     · exact(z.cA k b).2.2.2 e
     have:=mK k b;have:=hX k e;omega⟩,λk b=> ⟨bl k b,y k⟩,λk b=> ⟨be k b,y k⟩,λk b=>absurd (y k) b,z.sm⟩
  have ca:Ext b0 w (w5.setCell ⟨g,6,none⟩ (.slice R (N+1) C)) (gX g c XB Z.A Z.Ah) (gX g c (λk=>XB k\/(0<m/\ak X=some k)) Z.A R):=by
   have cL:bk w (w5.setCell ⟨g,6,none⟩ (.slice R (N+1) C)) (gX g c XB Z.A Z.Ah):=
    ((bk.bJ (S:=gX g c XB Z.A Z.Ah) u).trans nT λk b=> .inl (.inr (.inr (.inl (by rw[O.out.1];exact b))))).trans r λk b=> .inl (.inl b)
   refine Ext.of cL (λk b=>(H1.out.Cr k b).1) H1.out.low λk b=> ?_;rcases b with b | b | b | (b | ⟨_,b⟩) | b
   · exact .inl (.inl b)
   · exact .inl (.inr (.inl b))
   · rcases Dn k b with e | e
     · exact .inl (.inr (.inr (.inl (by rw[O.out.1];exact e))))
     exact .inr ω
   · exact .inl (.inr (.inr (.inr (.inl b))))
   · exact .inr (hX k b)
   exact absurd (y k) b
  have H3:=η (⟨h3,ca⟩ :_/\_);have dT:=hm;clear z u pE hK Fk V hr hX q G hf I mf hp xB D gY Dn co oX bl be cn r mK h3 ca nT gW kP mS iZ ct cw r0 r1 r2 r3 r4 r5 r6 r7 r8 r9 xd cQ yZ ac cJ cD dd;obtain⟨w3,cd⟩ :=ν (w5.setCell ⟨g,6,none⟩ (.slice R (N+1) C));rw[cd]at H3⊢;clear cd;obtain⟨q0,q1, -⟩ :=H3.out.1.cells;have CK:g<w3.heap.size:=H3.out.1.cell.lt
  go_wp2_with fail;refine(TI w3 Z.m Z.m ω).mono ?_;rintro e w4 ⟨gd,c1,M,S,rfl,hM,q,ae,am,ad,E⟩;have aE:∀k,c1 k≠0->w3.heap.size<=k:=λk b=>(hM.cb k b).1
  have ap:∀k,k<w3.heap.size->c1 k=0:=λk b=>by
   by_cases e:c1 k=0
   · exact e
   have:=aE k e;omega
  have ck:=ap g CK;have h4:=H3.out.1.fC (F:=λ_=>False) (bk.bJ q) (λk b=>b.elim) (λk b=> ⟨aw H3.out.1.low (hM.cb k b).1,(hM.cb k b).2⟩) (λk b _=>ap k b);have z2:=h4.S4 (i:=2) ω;obtain⟨-, -,cx, -⟩ :=h4.cells;have Qg:bk w4 (w4.setCell ⟨g,2,none⟩ (.pointer (some ⟨gd,0,none⟩))) (λk=>k=g):=bk.setCell (S:=λk=>k=g) (bk.refl w4 _) (p:= ⟨g,2,none⟩) (.inl rfl) _;have h5:qy (w4.setCell ⟨g,2,none⟩ (.pointer (some ⟨gd,0,none⟩))) b0 g c1 (λk=>XB k\/(0<m/\ak X=some k)) { Z with Ah:=R,nh:=N+1,ch:=C,p:=some ⟨gd,0,none⟩ } (H++[hv]) (hs++[l]):=h4.turn Qg ((h4.cell.bK (i:=2) ω _).congr (Cx rfl rfl rfl rfl rfl rfl rfl rfl rfl)) (h4.a4A Qg) ⟨rfl,rfl,rfl⟩ h4.sm;have yr:=hM.aside Qg (λk b=>by rw[b];exact ck);have ZR:Hid (bk w3 (w4.setCell ⟨g,2,none⟩ (.pointer (some ⟨gd,0,none⟩))) (λk=>k=g)):=bk.setCell (S:=λk=>k=g) (bk.bJ q) (p:= ⟨g,2,none⟩) (.inl rfl) _;clear h4 hM Qg q;go_upto_region 8 with fail
  revert h5 yr ZR;generalize w4.setCell ⟨g,2,none⟩ (.pointer (some ⟨gd,0,none⟩))=w6;intro h5 yr ZR;obtain⟨-,bt,bs, -⟩ :=h5.cells;replace bt:w6.cell? ⟨g,1,none⟩ =some (.slice A n d):=by rw[bt,<-HZ.out.1,<-HZ.out.2.1,<-HZ.out.2.2.1]
  replace bs:w6.cell? ⟨g,2,none⟩ =some (.pointer (some ⟨gd,0,none⟩)):=bs
  have ab:jx .u8 w6 b0 5 A n d l:=by
   have h:jx .u8 w6 b0 5 Z.A Z.n Z.cp Z.l:=h5.own;rw[HZ.out.1,HZ.out.2.1,HZ.out.2.2.1,HZ.out.2.2.2.1]at h;exact h
  have hcut:=(ab.cut (j:=J) HJ.out.2.1).rd;rw[HJ.out.2.2.1,HJ.out.2.2.2.1]at hcut;have cj:bT .u8 w6.drew w6.heap.size A9 n9 (l.drop J):=hcut;have cl:bF w6 c1 w6.drew w3.heap.size gd M S:=yr.refl.drew;have ci:=PB cl w6.heap.size n9 d9 _ (l.drop J) cj (ai _) (λv hv=>HJ.out.2.2.2.2.2.2.1 v (bu hv)) (by rw[ae,az];have:=HJ.out.2.2.2.2.2.2.2.1;simp;omega);have Yv:=η ci;have dj:=η yr.refl;have de:=η (⟨ae,am,ad,E⟩ :_/\_/\_/\_);have Ev:=η (⟨aE,ck⟩ :_/\_);have oJ:=CV.out;clear ci yr ab ae am ad E cx z2 cl cj hcut aE ap
  go_wp2_with fail
  go_region_law
   ((go_simp;go_at_call 34;(refine Yv.out.mono ?_))
    rintro e U ⟨A5,n5,d5,rfl,c5,Ln,K8⟩;have h7:=h5.fC K8.2.1 (λk b=> ⟨λe=>b (by rw[e];exact h5.cg),λe=>b (h5.cA k e).2.1,λe=>b (h5.cH k e).2,λe=>b (h5.cX k e).2⟩) (λk b=> ⟨aw H3.out.1.low (Ln.cb k b).1,(Ln.cb k b).2⟩) (λk b e=>by rw[K8.2.2 k b];exact e);have gW:=h7.cell)
  all_goals
   have z1:=gW.frozen' (i:=1) ω;have z4:=gW.frozen' (i:=4) ω;have z5:=gW.frozen' (i:=5) ω;obtain⟨-,dq, -, -,dp,dl, -⟩ :=h7.cells
   have cu:Hid (zM w b0 g (gX g c XB Z.A Z.Ah) T a (3*(f'+1)+2) (.returned (.int .i64 0)) (((U.setCell ⟨g,1,none⟩ (.slice none 0 0)).setCell ⟨g,4,none⟩ (.int .u32 0)).setCell ⟨g,5,none⟩ (.int .u32 0))):=by
    have r:bk U (((U.setCell ⟨g,1,none⟩ (.slice none 0 0)).setCell ⟨g,4,none⟩ (.int .u32 0)).setCell ⟨g,5,none⟩ (.int .u32 0)) (λk=>k=g):=bk.setCell (S:=λk=>k=g) (bk.setCell (S:=λk=>k=g) (bk.setCell (S:=λk=>k=g) (bk.refl U _) (p:= ⟨g,1,none⟩) (.inl rfl) _) (p:= ⟨g,4,none⟩) (.inl rfl) _) (p:= ⟨g,5,none⟩) (.inl rfl) _;have h8:qy (((U.setCell ⟨g,1,none⟩ (.slice none 0 0)).setCell ⟨g,4,none⟩ (.int .u32 0)).setCell ⟨g,5,none⟩ (.int .u32 0)) b0 g c5 (λk=>XB k\/(0<m/\ak X=some k)) { Z with Ah:=R,nh:=N+1,ch:=C,p:=some ⟨gd,0,none⟩,A:=none,n:=0,cp:=0,l:=[],Ci:=0,size:=0 } (H++[hv]) (hs++[l]):=h7.turn r ((((h7.cell.bK (i:=1) ω _).bK (i:=4) ω _).bK (i:=5) ω _).congr (Cx rfl rfl rfl rfl rfl rfl rfl rfl rfl)) ⟨jx.dN,λk b=>by simp [ak]at b,λv hv=>by simp at hv⟩ ⟨rfl,rfl,rfl⟩ ⟨⟨ez 0,(by omega:(0:Int)<4294967296)⟩,ez 0,(by omega:(0:Int)<4294967296)⟩;have hg:=dk.out;rw[HJ.out.1]at hg;obtain⟨ae,am,ad,E⟩ :=de.out;obtain⟨-, -, -, -, -, -,b1,b2,b3⟩ :=HB.out;refine hg _ c5 _ _ _ w3.heap.size gd _ S h8 rfl ω (Ln.aside r (λk b=>by rw[b];exact h7.cg)) (.inl ⟨start (gK (l.drop J)) Z.m, ⟨?_,E.st,E.last,E.left,E.c0,E.c1,E.c2,E.lens,E.hd,E.lt,E.ds,E.len,E.tail,E.rem,E.err⟩, .start (dO.gK (l.drop J)) Z.m,rfl,by show []=[]++M.out;rw[ad];rfl,by show Z.m<=_;omega⟩) (by show M.out.length<=_;rw[ad];simp) ⟨rfl,rfl,rfl,b1,rfl,rfl,rfl,rfl,b2,b3⟩ ?_
    · show rb (M.B.drop (M.a/8)++l.drop J) (M.a%8)=gK (l.drop J);rw[ae,am];rfl
    refine H3.out.2.trans (Ext.of ((((ZR.out.more (S':=gX g c (λk=>XB k\/(0<m/\ak X=some k)) Z.A R) λk b=> .inl b).trans K8.2.1 λk b=> .inr (Ev.out.1 k b)).trans r λk b=> .inl (.inl b))) (λk b=>(H3.out.1.Cr k b).1) H3.out.1.low λk b=> ?_);rcases b with b | b | b | b | b
    · exact .inl (.inl b)
    · simp [ak]at b
    · exact .inl (.inr (.inr (.inl b)))
    · exact .inl (.inr (.inr (.inr (.inl b))))
    exact .inr (Ln.cb k b).1
   clear gW h7 h5 Ln K8 Yv dj ZR
   go_wp2_with fail;go_ret;exact cu.out
theorem a2M {b:Nat} {w:World} (q:Nat):Below b w (w.drewN q):= ⟨rfl,rfl,rfl,ai _,λ_ _=>rfl⟩
theorem Q1 (w:World) (b0 g:Nat) (c:Nat->Nat) (XB:Nat->Prop) (Z:GR) (H:List HV) (hs:List (aj)) (r:qy w b0 g c XB Z H hs) (T:GT) (a:aj) (bI gd:Nat) (M:DM) (S:DS) (y:aj) (m0 f:Nat) (a0 u:aj) (hp:Z.p=some ⟨gd,0,none⟩) (Cl:g+1<=bI) (hM:jg w bI gd c M S)
  (hy:∀v∈y,0<=v/\v<256) (LV:y.length<=f) (hf:hs.length+f<=1000001) (Dw:m0<=1000000000) (hh:0<hs.length) (hT:T=(a0++((fx y m0).1.all++(gT f (fx y m0) m0).1),hs++(gT f (fx y m0) m0).2.1,(gT f (fx y m0) m0).2.2))
  (e1:Z.m+u.length=m0) (e2:a=a0++u) (e3:Z.Ci=vM 0 u) (e4:Z.size=(u.length:Int)) (p1:Z.Pm=true) (p3:(fx y m0).2=8) (p4:u=(fx y m0).1.all) (Y:Z.l=ke (fx y m0).1.x) (p6:Z.l.length<=f) (D:Z.en=true) (gY:Z.err=0) (hm:Z.m<=1000000000) (mf:Z.l.length<=1000000):
  Calls Tryz.prog 58 #[.pointer (some ⟨g,0,none⟩)] w (zM w b0 g (gX g c XB Z.A Z.Ah) T a (3*f+3)):=by
 obtain⟨i0,hi,ap,ad,ao⟩ :=aL jY;have Hi:=η (⟨hi,ad⟩ :_/\_);obtain⟨-,k1,k2,k3,k4,k5, -⟩ :=r.cells;have Ik:T.1=a0++((fx y m0).1.all++(gT f (fx y m0) m0).1)/\T.2.1=hs++(gT f (fx y m0) m0).2.1/\T.2.2=(gT f (fx y m0) m0).2.2:=by rw[hT];exact⟨rfl,rfl,rfl⟩
 have bad:Hid (∀v,yl Z.l u=v->v≠0->∀q,zM w b0 g (gX g c XB Z.A Z.Ah) T a (3*f+3) (.returned (.int .i64 v)) (w.drewN q)):=λv hv h0 q=>by
  obtain⟨V,U,R⟩ :=Ik;rw[NH p3 Y.symm p4.symm (by rw[hv];exact h0)]at V U R;refine⟨v,c,XB,Z,H,hs,3*f+3,rfl,r.keeps (a2M q), ?_,D,gY,hm,mf, ⟨a2M q,bk.drewN (bk.refl _ _) q,λk o=> .inl o⟩, .inr ⟨h0,by rw[V,e2,p4];simp,by rw[U];simp,by rw[R,hv]⟩⟩;exact Et.keeps (.inr ⟨bI,gd,M,S,y,m0,f,a0,u,hp,Cl,hM,hy,LV,hf,Dw,hh,hT,e1,e2,e3,e4, .inr ⟨p1,rfl,p3,p4,Y,p6⟩⟩) (a2M q)
 have good:Hid (yl Z.l u=0->8<=Z.l.length->∀q,zM w b0 g (gX g c XB Z.A Z.Ah) T a (3*f+3) (.returned (.int .i64 0)) ((((w.drewN q).setCell ⟨g,1,none⟩ (.slice (dr Z.A Z.cp 8) (Z.n-8) (Z.cp-8))).setCell ⟨g,2,none⟩ (.pointer none)).setCell ⟨g,3,none⟩ (.bool false))):=λhv X q=>by
  obtain⟨V,U,R⟩ :=Ik;rw[Ua p3 Y.symm p4.symm hv]at V U R
  have K:bk w ((((w.drewN q).setCell ⟨g,1,none⟩ (.slice (dr Z.A Z.cp 8) (Z.n-8) (Z.cp-8))).setCell ⟨g,2,none⟩ (.pointer none)).setCell ⟨g,3,none⟩ (.bool false)) (λk=>k=g):=
   (((bk.drewN (bk.refl w (λk=>k=g)) q).setCell (p:= ⟨g,1,none⟩) (.inl rfl) _).setCell (p:= ⟨g,2,none⟩) (.inl rfl) _).setCell (p:= ⟨g,3,none⟩) (.inl rfl) _
  have B:8<=Z.n:=by rw[r.own.1];exact X
  have L:=r.own.blk 8;have ab:=(r.own.cut B).fC K (λk o e=>(r.cA k (by rw[<-L];exact o)).1 e)
  refine⟨0,λ_=>0,XB,{ Z with A:=dr Z.A Z.cp 8,n:=Z.n-8,cp:=Z.cp-8,l:=Z.l.drop 8,p:=none,Pm:=false },H,hs,3*f+2,rfl, ⟨?_,r.lo,ab,r.hdr.fC K (λk o e=>(r.cH k e).1 o) (λk o e=>(r.cX k e).1 o),λv hv=>r.jR v (bu hv),rfl,λk o=> ?_,λk o=> ⟨(r.cH k o).1,rfl⟩,λk o=> ⟨(r.cX k o).1,rfl⟩,λk o=>absurd rfl o,r.sm⟩,
   .inl ⟨rfl,rfl,λ_=>rfl,f,by show(Z.l.drop 8).length<f;rw[az];omega,ω,rfl, ?_⟩,D,gY,hm,by show(Z.l.drop 8).length<=_;rw[az];omega,Ext.of (K.more λk o=> .inl o) (λk o=>(r.Cr k o).1) r.low (λk o=> ?_), .inl ⟨rfl,ω⟩⟩
  · exact(((r.cell.drewN q).bK (i:=1) ω _).bK (i:=2) ω _ |>.bK (i:=3) ω _).congr (Cx rfl rfl rfl rfl rfl rfl rfl rfl rfl)
  · have h9:=r.cA k (by rw[<-L];exact o);exact⟨h9.1,rfl,h9.2.2⟩
  · have hd:decide (0<hs.length)=true:=aS hh;rw[hd];show T=(a++(gz f (Z.l.drop 8) Z.m true).1,hs++(gz f (Z.l.drop 8) Z.m true).2.1,(gz f (Z.l.drop 8) Z.m true).2.2);rw[show m0-u.length=Z.m by omega]at V U R;rw[e2,av,p4,<-V,<-U,<-R]
  rcases o with o | o | o | o | o
  · exact .inl (.inl o)
  · exact .inl (.inr (.inl (by rw[<-L];exact o)))
  · exact .inl (.inr (.inr (.inl o)))
  · exact .inl (.inr (.inr (.inr (.inl o))))
  exact absurd rfl o
 obtain⟨GE,N⟩ :=ν (gX g c XB Z.A Z.Ah);rw[N]at bad good⊢;have G:=r.own;have E:=r.jR;have ac:u.length<=1000000000:=ω;have H1:=η r;obtain⟨A,hA⟩ :=ν (Z.A);obtain⟨n,hn⟩ :=ν (Z.n);obtain⟨d,hd⟩ :=ν (Z.cp);obtain⟨l,hl⟩ :=ν (Z.l);obtain⟨s,hs_⟩ :=ν (Z.Ci);rw[hA,hn,hd,hl]at G;rw[hA,hn,hd]at k1 good;have ae:l.length<8\/8<=l.length:=ω;rw[hl]at bad good E mf;rw[hp]at k2;rw[p1]at k3;rw[hs_]at k4 e3;rw[e4]at k5;have fz:=G.1;have fI:=G.jT;rcases ae with X | X
 · have cu:=η (bad.out 5 (by unfold yl;rw[af X]) δ 0);have x6:(n:Int)<8:=ω;clear e1 e2 e3 e4 p1 p3 p4 Y p6 hp Cl hM hy LV hf Dw hh hT D gY hm mf fI ac hA hn hd hl hs_ fz N;clear bad good r G Ik;go_enter Tryz.func58,Tryz.ntmps58
   go_wp2_with fail;go_ret;exact cu.out
 have B:8<=n:=ω;have x6:¬(n:Int)<8/\(n:Int)<=1000000:=ω;have an:8<=d:=aw B fI;have lJ:∀W,(Instr.slice 22 (.slice A n d) none (some (.int .i64 4)) none).run Tryz.prog W= .ok (.slice A 4 d) W:=λW=>dQ (P:=Tryz.prog) 22 5 Tryz.underlying22 Hi.out.1 Hi.out.2 A n d (j:=4) ω W;have al:∀W,(Instr.slice 22 (.slice A n d) (some (.int .i64 4)) (some (.int .i64 8)) none).run Tryz.prog W= .ok (.slice (dr A d 4) 4 (d-4)) W:=λW=>fW (P:=Tryz.prog) 22 5 Tryz.underlying22 Hi.out.1 Hi.out.2 A n d (a:=4) (b:=8) ω ω W;have ah:∀W,(Instr.slice 22 (.slice A n d) (some (.int .i64 8)) none none).run Tryz.prog W= .ok (.slice (dr A d 8) (n-8) (d-8)) W:=λW=>cZ (P:=Tryz.prog) 22 5 Tryz.underlying22 Hi.out.1 Hi.out.2 A n d (j:=8) ω W;obtain⟨A4,Ck⟩ :=ν (dr A d 4);obtain⟨d4,Iz⟩ :=ν (d-4);obtain⟨A8,hA8⟩ :=ν (dr A d 8);obtain⟨n8,I⟩ :=ν (n-8);obtain⟨d8,J⟩ :=ν (d-8);have SA:bT .u8 w w.heap.size A 4 (l.take 4):=G.rd.pre ω
 have Vx:bT .u8 w w.heap.size A4 4 ((l.drop 4).take 4):=by
  have h9:=(G.rd.dr (j:=4) ω fI).pre (j:=4) ω;rw[Ck]at h9;exact h9
 rw[Ck,Iz]at al;rw[hA8,I,J]at ah;rw[hA8,I,J]at good
 have hg:yl l u=if oK (l.take 4)≠s\/oK ((l.drop 4).take 4)≠(u.length:Int)then 4 else 0:=by
  unfold yl;rw[aa ω,show(u.length:Int)%4294967296=(u.length:Int) by omega,e3]
 obtain⟨Q,pj⟩ :=ν (oK (l.take 4));obtain⟨O,F⟩ :=ν (oK ((l.drop 4).take 4));obtain⟨z,hz⟩ :=ν ((u.length:Int):Int);rw[pj,F,hz]at hg;rw[hz]at k5
 have HN:=η (λ(A':ay) (d':Nat) (v':Int) (W:World) (h:(A'=A/\d'=d/\v'=Q)\/(A'=A4/\d'=d4/\v'=O)) (hW:∀(C:ay) (t:aj),bT .u8 w w.heap.size C 4 t->bT .u8 W w.heap.size C 4 t)=>
  show Calls Tryz.prog 78 #[.slice A' 4 d'] W (λe w'=>e= .returned (.int .u32 v')/\∃q,w'=W.drewN q) from by
   rcases h with ⟨rfl,rfl,rfl⟩ | ⟨rfl,rfl,rfl⟩
   · rw[<-pj];exact mZ W w.heap.size 4 _ _ (l.take 4) (hW _ _ SA) ω (λv hv=>E v (aO hv))
   rw[<-F];exact mZ W w.heap.size 4 _ _ ((l.drop 4).take 4) (hW _ _ Vx) ω (λv hv=>E v (bu (aO hv))))
 have z1:=H1.out.S4 (i:=1) ω;have z2:=H1.out.S4 (i:=2) ω;have z3:=H1.out.S4 (i:=3) ω;have am:∀q,(w.drewN q).cell? ⟨g,4,none⟩ =some (.int .u32 s):=λq=>k4;have Iu:Hid (Q≠s\/O≠z->∀q,zM w b0 g GE T a (3*f+3) (.returned (.int .i64 4)) (w.drewN q)):=λh=>bad.out 4 (by rw[hg,af h]) δ;have kN:Hid (Q=s->O=z->∀q,zM w b0 g GE T a (3*f+3) (.returned (.int .i64 0)) ((((w.drewN q).setCell ⟨g,1,none⟩ (.slice A8 n8 d8)).setCell ⟨g,2,none⟩ (.pointer none)).setCell ⟨g,3,none⟩ (.bool false))):=λc1 c2=>good.out (by rw[hg,aa (by rintro(h | h);exact h c1;exact h c2)]) X;have aE:(8:Int)<=(n:Int):=ω;clear e1 e2 e3 e4 p1 p3 p4 Y p6 hp Cl hM hy LV hf Dw hh hT D gY hm mf fI ac hA hn hd hl hs_ N;clear bad good r G fz Ik hg pj F hz Ck Iz hA8 I J SA Vx E X B an am;by_cases c1:Q=s
 rotate_left
 · have hf:=η (Iu.out (.inl c1));have bo:(Q==s)=false:=by simpa using c1
   have bl:(Q != s)=true:=by simpa using c1
   clear kN Iu c1;go_enter Tryz.func58,Tryz.ntmps58
   go_wp2_with fail;go_quiet ((go_at_call 78;exact dM (HN.out _ _ _ _ (by first | exact .inl ⟨rfl,rfl,rfl⟩ | exact .inr ⟨rfl,rfl,rfl⟩) (by exact λ_ _ h=>h))))
   go_wp2_with fail;go_ret;exact hf.out _
 by_cases c2:O=z
 · have hf:=η (kN.out c1 c2);clear kN Iu;subst c1 c2;go_enter Tryz.func58,Tryz.ntmps58
   go_wp2_with fail;go_quiet ((go_at_call 78;exact dM (HN.out _ _ _ _ (by first | exact .inl ⟨rfl,rfl,rfl⟩ | exact .inr ⟨rfl,rfl,rfl⟩) (by exact λ_ _ h=>h))))
   go_wp2_with fail;go_ret;exact hf.out _
 have hf:=η (Iu.out (.inr c2));have bi:(O==z)=false:=by simpa using c2
 have be:(O != z)=true:=by simpa using c2
 clear kN Iu c2;subst c1;go_enter Tryz.func58,Tryz.ntmps58
 go_wp2_with fail;go_quiet ((go_at_call 78;exact dM (HN.out _ _ _ _ (by first | exact .inl ⟨rfl,rfl,rfl⟩ | exact .inr ⟨rfl,rfl,rfl⟩) (by exact λ_ _ h=>h))))
 go_wp2_with fail;go_ret;exact hf.out _
theorem zM.MQ {w w':World} {b0 g:Nat} {E:Nat->Prop} {T:GT} {a:aj} {rk n:Nat} {e:Ending} (h:zM w b0 g E T a rk e w'):∃r,e= .returned (.int .i64 r)/\SM w b0 g E T a rk n (.returned (.tuple #[.slice none 0 0, .int .i64 r])) w':=by
 obtain⟨r,c,XB,Z,H,hs,b,k,j,i,f,h4,h5,h6,h7,d⟩ :=h;refine⟨r,k,none,0,0,[],r,c,XB,Z,H,hs,b,rfl, ⟨rfl,Rd.dN⟩,aF _,j,by rw[aA];exact i,f,h4,h5,h6,h7, ?_⟩;rcases d with ⟨h,h'⟩ | ⟨h,h'⟩
 · exact .inl ⟨h, .inl h'⟩
 exact .inr ⟨h,rfl,h'⟩
theorem Q3 (w:World) (b0 g:Nat) (c:Nat->Nat) (XB:Nat->Prop) (Z:GR) (H:List HV) (hs:List (aj)) (T:GT) (a:aj) (rk:Nat) (h:qy w b0 g c XB Z H hs) (Y:Et w (g+1) c T a hs rk Z) (b:Z.en=true) (i:Z.err=0) (q:Z.m<=1000000000) (p:Z.l.length<=1000000) (n:Nat) (z:0<n) (x:n<=1000000000):
  Calls Tryz.prog 35 #[.pointer (some ⟨g,0,none⟩), .int .i64 n] w (SM w b0 g (gX g c XB Z.A Z.Ah) T a rk n):=by
 obtain⟨-, -,J,P, -⟩ :=h.cells;rcases Y with ⟨hp,q2,q3,f,q4,j,q5,q6⟩ | ⟨R,gd,M,S,y,m0,f,V,U,hp,Q,E,v,u,hf,B,C,D,I,K,G,F, ⟨p1,p2,p3,p4,o,k,O,N⟩ | ⟨p1,p2,p3,p4,o,k⟩⟩
 · subst q5;have t:=η (Lf w b0 g c XB Z H hs T a f h hp q2 q3 q4 j q6 b i q p);rw[hp]at J;clear h b i q p q2 q3 q4 j q6 hp z x;go_enter Tryz.func35,Tryz.ntmps35
   go_wp2_with fail;refine t.out.mono ?_;intro e L d;obtain⟨r,rfl,s⟩ :=d.MQ (n:=n);have hf:=η s;clear d s
   go_wp2_with fail;go_returns;exact hf.out
 · subst p2 K;have t:=η (Lg w b0 g c XB Z H hs h T R gd M S y m0 f V U hp Q E v u hf B C D I G F p1 p3 p4 o k O N b i n z x);rw[hp]at J;rw[p1]at P;clear h b i q p E v u hf B C D I G F p1 p3 p4 o k O N hp z x;go_enter Tryz.func35,Tryz.ntmps35
   go_wp2_with fail;refine t.out.mono ?_;intro e L d;have hf:=η d;obtain⟨A5,k5,d5,l5,r,c5,RY,Z5,H5,X,W,rfl, -⟩ :=d
   go_wp2_with fail;go_returns;exact hf.out
 subst p2;have t:=η (Q1 w b0 g c XB Z H hs h T a R gd M S y m0 f V U hp Q E v u hf B C D I K G F p1 p3 p4 o k b i q p);rw[hp]at J;rw[p1]at P;clear h b i q p E v u hf B C D I K G F p1 p3 p4 o k hp z x;go_enter Tryz.func35,Tryz.ntmps35
 go_wp2_with fail;refine t.out.mono ?_;intro e L d;obtain⟨r,rfl,s⟩ :=d.MQ (n:=n);have hf:=η s;clear d s
 go_wp2_with fail;go_returns;exact hf.out
end Go.Proofs.YtdhmnlpfhfmpfaaGreat
