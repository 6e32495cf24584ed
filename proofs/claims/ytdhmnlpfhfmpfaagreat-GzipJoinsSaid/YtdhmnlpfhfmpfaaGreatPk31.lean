/-
  part
-/
import Derived.Test.YtdhmnlpfhfmpfaaGreatRgz
set_option linter.unusedVariables false
set_option maxRecDepth 100000
set_option maxHeartbeats 8000000
namespace Go.Proofs.YtdhmnlpfhfmpfaaGreat
open Go.RowKit
structure Ex (w:World) (b0:Nat) (XB:Nat->Prop) (A:Option Addr) (n c:Nat) (H:List HV) (hs:List (List Int)):Prop where
 own:Own w b0 31 11 A n c (Aq H)
 n_:n=H.length
 len:H.length=hs.length
 ex:∀i,i<hs.length->∃X m cc,H.getD i hz=CI (hs.getD i []) (.slice X m cc)/\m<=cc/\cc<=maxLen/\bU .u8 w w.heap.size X m (yy (hs.getD i []))/\∀ad,X=some ad->0<m->XB ad.block
 xb:∀k,XB k->b0<=k/\k<w.heap.size/\ai A≠some k
structure GR where
 m:Nat
 A:Option Addr
 n:Nat
 cp:Nat
 l:List Int
 p:Option Addr
 OT:Bool
 C9:Int
 size:Int
 Ah:Option Addr
 nh:Nat
 ch:Nat
 en:Bool
 err:Int
def gcF (Z:GR):Nat->Value
 | 0=> .int .i64 Z.m
 | 1=> .slice Z.A Z.n Z.cp
 | 2=> .pointer Z.p
 | 3=> .bool Z.OT
 | 4=> .int .u32 Z.C9
 | 5=> .int .u32 Z.size
 | 6=> .slice Z.Ah Z.nh Z.ch
 | 7=> .bool Z.en
 | _=> .int .i64 Z.err
theorem Cp {P:Nat->Prop} (f:P 0) (e:P 1) (d:P 2) (c:P 3) (h4:P 4) (h5:P 5) (h6:P 6) (h7:P 7) (b:P 8):∀j,j<9->P j:=λj a=>by
 obtain rfl | rfl | rfl | rfl | rfl | rfl | rfl | rfl | rfl:j=0\/j=1\/j=2\/j=3\/j=4\/j=5\/j=6\/j=7\/j=8:=ω;all_goals assumption
def gX (g:Nat) (c:Nat->Nat) (XB:Nat->Prop) (A Ah:Option Addr):Nat->Prop:=λk=>k=g\/ai A=some k\/ai Ah=some k\/XB k\/c k≠0
structure qZ (w:World) (b0 g:Nat) (c:Nat->Nat) (XB:Nat->Prop) (Z:GR) (H:List HV) (hs:List (List Int)):Prop where
 cell:Ar w g 9 (gcF Z)
 lo:b0<=g
 own:ju .u8 w b0 5 Z.A Z.n Z.cp Z.l
 hdr:Ex w b0 XB Z.Ah Z.nh Z.ch H hs
 jU:∀v∈Z.l,0<=v/\v<256
 cg:c g=0
 cA:∀k,ai Z.A=some k->k≠g/\c k=0/\ai Z.Ah≠some k/\¬XB k
 cH:∀k,ai Z.Ah=some k->k≠g/\c k=0
 cX:∀k,XB k->k≠g/\c k=0
 cb:∀k,c k≠0->b0<=k/\k<w.heap.size
 sm:(0<=Z.C9/\Z.C9<4294967296)/\0<=Z.size/\Z.size<4294967296
abbrev GT:=List Int×List (List Int)×Int
def Ep (w:World) (b0:Nat) (c:Nat->Nat) (T:GT) (a:List Int) (hs:List (List Int)) (rk:Nat) (Z:GR):Prop:=
 (Z.p=none/\Z.OT=false/\(∀k,c k=0)/\∃f,Z.l.length<f/\hs.length+f<=1000001/\rk=3*f+2/\T=(a++(gz f Z.l Z.m (decide (0<hs.length))).1,hs++(gz f Z.l Z.m (decide (0<hs.length))).2.1,(gz f Z.l Z.m (decide (0<hs.length))).2.2))\/
 (∃d gd M S y m0 f e b,Z.p=some ⟨gd,0,none⟩/\b0<=d/\jb w d gd c M S/\(∀v∈y,0<=v/\v<256)/\y.length<=f/\hs.length+f<=1000001/\m0<=1000000000/\0<hs.length/\T=(e++((eU y m0).1.all++(gT f (eU y m0) m0).1),hs++(gT f (eU y m0) m0).2.1,(gT f (eU y m0) m0).2.2)/\
   Z.m+b.length=m0/\a=e++b/\Z.C9=yU 0 b/\Z.size=(b.length:Int)/\
   ((Z.OT=false/\rk=3*f+4/\Z.A=none/\Z.n=0/\Z.cp=0/\Z.l=[]/\ZIn (eU y m0) (b++M.out) M S/\M.out.length<=70000)\/
    (Z.OT=true/\rk=3*f+3/\(eU y m0).2=8/\b=(eU y m0).1.all/\Z.l=jO (eU y m0).1.x/\Z.l.length<=f)))
section
variable {w w' w'':World} {b0 g:Nat} {c c':Nat->Nat} {XB:Nat->Prop} {Z Z':GR} {H:List HV} {hs:List (List Int)} {a:List Int} {T:GT} {rk:Nat} {E E':Nat->Prop}
theorem Ex.fz {A:Option Addr} {n cp:Nat} {F:Nat->Prop} (h:Ex w b0 XB A n cp H hs) (b:bj w w' F) (hA:∀k,F k->ai A≠some k) (d:∀k,F k->¬XB k):Ex w' b0 XB A n cp H hs:=
 ⟨b.own h.own (λk a e=>hA k e a),h.n_,h.len,λi hi=>by
   obtain⟨X,m,cc,o,l,j,g,c⟩ :=h.ex i hi;exact⟨X,m,cc,o,l,j,(b.rA g (ag _) (λf p e hF=>d _ hF (c p e f))).more b.size,c⟩,λk a=> ⟨(h.xb k a).1,aD (h.xb k a).2.1 b.size,(h.xb k a).2.2⟩⟩
theorem qZ.Gf (h:qZ w b0 g c XB Z H hs):∀k,gX g c XB Z.A Z.Ah k->b0<=k/\k<w.heap.size:=λk a=>by
 rcases a with rfl | a | a | a | a
 · exact⟨h.lo,h.cell.lt⟩
 · exact h.own.lt a
 · exact h.hdr.own.lt a
 · exact⟨(h.hdr.xb k a).1,(h.hdr.xb k a).2.1⟩
 exact h.cb k a
theorem qZ.low (h:qZ w b0 g c XB Z H hs):b0<=w.heap.size:=au h.lo (cZ h.cell.lt)
theorem qZ.cells (h:qZ w b0 g c XB Z H hs):w.cell? ⟨g,0,none⟩ =some (.int .i64 Z.m)/\w.cell? ⟨g,1,none⟩ =some (.slice Z.A Z.n Z.cp)/\w.cell? ⟨g,2,none⟩ =some (.pointer Z.p)/\w.cell? ⟨g,3,none⟩ =some (.bool Z.OT)/\w.cell? ⟨g,4,none⟩ =some (.int .u32 Z.C9)/\
  w.cell? ⟨g,5,none⟩ =some (.int .u32 Z.size)/\w.cell? ⟨g,6,none⟩ =some (.slice Z.Ah Z.nh Z.ch)/\w.cell? ⟨g,7,none⟩ =some (.bool Z.en)/\w.cell? ⟨g,8,none⟩ =some (.int .i64 Z.err):=
 ⟨h.cell.cell ω,h.cell.cell ω,h.cell.cell ω,h.cell.cell ω,h.cell.cell ω,h.cell.cell ω,h.cell.cell ω,h.cell.cell ω,h.cell.cell ω⟩
theorem qZ.Rp (h:qZ w b0 g c XB Z H hs) {i:Nat} (hi:i<9):w.frozen? ⟨g,i,none⟩ =false:=h.cell.frozen' hi
theorem qZ.turn (h:qZ w b0 g c XB Z H hs) (f:bj w w' (λk=>k=g)) (j:Ar w' g 9 (gcF Z')) (hA:ju .u8 w' b0 5 Z'.A Z'.n Z'.cp Z'.l/\(∀k,ai Z'.A=some k->ai Z.A=some k)/\(∀v∈Z'.l,0<=v/\v<256)) (i:Z'.Ah=Z.Ah/\Z'.nh=Z.nh/\Z'.ch=Z.ch) (b:(0<=Z'.C9/\Z'.C9<4294967296)/\0<=Z'.size/\Z'.size<4294967296):qZ w' b0 g c XB Z' H hs:=by
 obtain⟨p,o,m⟩ :=hA;obtain⟨d,r,q⟩ :=i;exact⟨j,h.lo,p,by rw[d,r,q];exact h.hdr.fz f (λk a e=>(h.cH k e).1 a) (λk a e=>(h.cX k e).1 a),m,h.cg,λk a=>by rw[d];exact h.cA k (o k a),λk a=>h.cH k (by rw[<-d];exact a),h.cX,λk a=> ⟨(h.cb k a).1,aD (h.cb k a).2 f.size⟩,b⟩
theorem qZ.a43 (h:qZ w b0 g c XB Z H hs) (b:bj w w' (λk=>k=g)):ju .u8 w' b0 5 Z.A Z.n Z.cp Z.l/\(∀k,ai Z.A=some k->ai Z.A=some k)/\(∀v∈Z.l,0<=v/\v<256):= ⟨h.own.fz b (λk a e=>(h.cA k a).1 e),λk a=>a,h.jU⟩
theorem qZ.fz {F:Nat->Prop} (h:qZ w b0 g c XB Z H hs) (f:bj w w' F) (hF:∀k,F k->k≠g/\ai Z.A≠some k/\ai Z.Ah≠some k/\¬XB k) (d:∀k,c' k≠0->b0<=k/\k<w'.heap.size) (b:∀k,k<w.heap.size->c k=0->c' k=0):qZ w' b0 g c' XB Z H hs:=
 ⟨f.ar h.cell (λe=>(hF g e).1 rfl),h.lo,h.own.fz f (λk a e=>(hF k e).2.1 a),h.hdr.fz f (λk a=>(hF k a).2.2.1) (λk a=>(hF k a).2.2.2),h.jU,b g h.cell.lt h.cg,λk a=> ⟨(h.cA k a).1,b k (h.own.lt a).2 (h.cA k a).2.1,(h.cA k a).2.2⟩,λk a=> ⟨(h.cH k a).1,b k (h.hdr.own.lt a).2 (h.cH k a).2⟩,λk a=> ⟨(h.cX k a).1,b k (h.hdr.xb k a).2.1 (h.cX k a).2⟩,d,h.sm⟩
theorem qZ.keeps (h:qZ w b0 g c XB Z H hs) (b:Below w.heap.size w w'):qZ w' b0 g c XB Z H hs:=
 h.fz (bj.bA (S:=λ_=>False) b) (λk a=>a.elim) (λk a=> ⟨(h.cb k a).1,aD (h.cb k a).2 b.size⟩) (λ_ _ e=>e)
theorem Ep.keeps (h:Ep w b0 c T a hs rk Z) (b:Below w.heap.size w w'):Ep w' b0 c T a hs rk Z:=by
 rcases h with h | ⟨i,gd,M,S,y,m0,f,k,j,g,e,d,h4⟩
 · exact .inl h
 exact .inr ⟨i,gd,M,S,y,m0,f,k,j,g,e,d.keeps b,h4⟩
theorem Ep.aside {F:Nat->Prop} (h:Ep w b0 c T a hs rk Z) (b:bj w w' F) (hF:∀k,F k->c k=0) (d:Z'.m=Z.m/\Z'.A=Z.A/\Z'.n=Z.n/\Z'.cp=Z.cp/\Z'.l=Z.l/\Z'.p=Z.p/\Z'.OT=Z.OT/\Z'.C9=Z.C9/\Z'.size=Z.size):Ep w' b0 c T a hs rk Z':=by
 obtain⟨x,v,u,t,s,r,q,o,j⟩ :=d;unfold Ep at h⊢;rw[x,v,u,t,s,r,q,o,j];rcases h with h | ⟨z,gd,M,S,y,m0,f,C,B,i,g,e,h4⟩
 · exact .inl h
 exact .inr ⟨z,gd,M,S,y,m0,f,C,B,i,g,e.aside b hF,h4⟩
end
def S7 (w:World) (b0 g:Nat) (E:Nat->Prop) (T:GT) (a:List Int) (rk n:Nat) (e:Ending) (w':World):Prop:=
 ∃A k cp l r c XB Z H hs b,e= .returned (.tuple #[.slice A k cp, .int .i64 r])/\bU .u8 w' w'.heap.size A k l/\l.length<=n/\qZ w' b0 g c XB Z H hs/\Ep w' (g+1) c T (a++l) hs b Z/\Z.en=true/\Z.err=0/\Z.m<=1000000000/\Z.l.length<=1000000/\Ext b0 w w' E (gX g c XB Z.A Z.Ah)/\
  ((r=0/\(b<rk\/(b=rk/\0<l.length)))\/(r≠0/\l=[]/\a=T.1/\hs=T.2.1/\r=T.2.2))
def zx (w:World) (b0 g:Nat) (E:Nat->Prop) (T:GT) (a:List Int) (rk:Nat) (e:Ending) (w':World):Prop:=
 ∃r c XB Z H hs b,e= .returned (.int .i64 r)/\qZ w' b0 g c XB Z H hs/\Ep w' (g+1) c T a hs b Z/\Z.en=true/\Z.err=0/\Z.m<=1000000000/\Z.l.length<=1000000/\Ext b0 w w' E (gX g c XB Z.A Z.Ah)/\((r=0/\b<rk)\/(r≠0/\a=T.1/\hs=T.2.1/\r=T.2.2))
def Kb (w:World) (b0 g:Nat) (E:Nat->Prop) (T:GT) (a:List Int) (hs:List (List Int)):Prop:=
 ∃c XB Z H rk,qZ w b0 g c XB Z H hs/\Ep w (g+1) c T a hs rk Z/\Z.en=true/\Z.m<=1000000000/\Z.l.length<=1000000/\E=gX g c XB Z.A Z.Ah/\(Z.err=0\/(Z.err=T.2.2/\a=T.1/\hs=T.2.1))
section
variable {w w':World} {b0 g:Nat} {E:Nat->Prop} {T:GT} {a:List Int} {hs:List (List Int)}
theorem Kb.keeps (h:Kb w b0 g E T a hs) (b:Below w.heap.size w w'):Kb w' b0 g E T a hs:=by
 obtain⟨c,XB,Z,H,rk,f,e,d⟩ :=h;exact⟨c,XB,Z,H,rk,f.keeps b,e.keeps b,d⟩
theorem Kb.low (h:Kb w b0 g E T a hs):b0<=w.heap.size:=by obtain⟨c,XB,Z,H,rk,b, -⟩ :=h;exact b.low
theorem Kb.xlt (h:Kb w b0 g E T a hs):∀k,E k->b0<=k/\k<w.heap.size:=by
 obtain⟨c,XB,Z,H,rk,b,_,_,_,_,rfl,_⟩ :=h;exact b.Gf
theorem Kb.fz {F:Nat->Prop} (h:Kb w b0 g E T a hs) (d:bj w w' F) (hF:∀k,F k->¬E k):Kb w' b0 g E T a hs:=by
 obtain⟨c,XB,Z,H,rk,f,j,i,h4,h5,rfl,h6⟩ :=h;refine⟨c,XB,Z,H,rk,f.fz d (λk b=> ⟨λe=>hF k b (.inl e),λe=>hF k b (.inr (.inl e)),λe=>hF k b (.inr (.inr (.inl e))),λe=>hF k b (.inr (.inr (.inr (.inl e))))⟩) (λk b=> ⟨(f.cb k b).1,aD (f.cb k b).2 d.size⟩) (λ_ _ e=>e),j.aside d (λk b=> ?_) ⟨rfl,rfl,rfl,rfl,rfl,rfl,rfl,rfl,rfl⟩,i,h4,h5,rfl,h6⟩;by_cases e:c k=0
 · exact e
 exact absurd (.inr (.inr (.inr (.inr e)))) (hF k b)
end
def TA (m:Nat) (A:Option Addr) (n cp:Nat) (l:List Int) (en:Bool):GR:= ⟨m,A,n,cp,l,none,false,0,0,none,0,0,en,0⟩
structure GN (w:World) (b0 g m:Nat) (A:Option Addr) (n cp:Nat) (l:List Int) (en:Bool):Prop where
 cell:Ar w g 9 (gcF (TA m A n cp l en))
 lo:b0<=g
 own:ju .u8 w b0 5 A n cp l
 jU:∀v∈l,0<=v/\v<256
 ne:∀k,ai A=some k->k≠g
theorem GN.st {w:World} {b0 g m n cp:Nat} {A:Option Addr} {l:List Int} (h:GN w b0 g m A n cp l true) (b:m<=1000000000) (c:l.length<=1000000):Kb w b0 g (gX g (λ_=>0) (λ_=>False) A none) (gz (l.length+1) l m false) [] []:=
 ⟨λ_=>0,λ_=>False,TA m A n cp l true,[],_, ⟨h.cell,h.lo,h.own, ⟨Own.dK,rfl,rfl,λi hi=>by simp at hi,λk a=>a.elim⟩,h.jU,rfl,λk a=> ⟨h.ne k a,rfl,by simp [TA,ai],λe=>e⟩,λk a=>by simp [TA,ai]at a,λk a=>a.elim,λk a=>absurd rfl a, ⟨df 0,by show(0:Int)<4294967296;decide⟩,df 0,by show(0:Int)<4294967296;decide⟩,
   .inl ⟨rfl,rfl,λ_=>rfl,l.length+1,iL _,ξ,rfl,rfl⟩,rfl,b,c,rfl, .inl rfl⟩
theorem Dc (w:World) (most:Int) (m:Nat) (d:(m:Int)=max most 0):
  Calls Tryz.prog 12 #[.int .i64 most] w λe w'=>∃g,e= .returned (.pointer (some ⟨g,0,none⟩))/\GN w' w.heap.size g m none 0 0 [] false/\Below w.heap.size w w':=by
 have h:Hid (∀v:Int,v=(m:Int)->∃g,Ending.returned (.pointer (some ⟨w.heap.size,0,none⟩))= .returned (.pointer (some ⟨g,0,none⟩))/\
   GN (w.alloc (.cells #[.int .i64 v, .slice none 0 0, .pointer none, .bool false, .int .u32 0, .int .u32 0, .slice none 0 0, .bool false, .int .i64 0] 71)) w.heap.size g m none 0 0 [] false/\
   Below w.heap.size w (w.alloc (.cells #[.int .i64 v, .slice none 0 0, .pointer none, .bool false, .int .u32 0, .int .u32 0, .slice none 0 0, .bool false, .int .i64 0] 71))):=by
  rintro v rfl;exact⟨_,rfl, ⟨Ar.new w _ _ rfl (Cp rfl rfl rfl rfl rfl rfl rfl rfl rfl),ag _,ju.dK,λv hv=>by simp at hv,λk f=>by simp [ai]at f⟩,(aw _ w).alloc (ag _) _⟩
 have b:(most<0/\m=0)\/(0<most/\(m:Int)=most)\/(most=0/\m=0):=ω;clear d;rcases b with ⟨c,a⟩ | ⟨c,a⟩ | ⟨c,a⟩
 all_goals
  have i:=η a;clear a
  try subst c
  go_enter Tryz.func12,Tryz.ntmps12
  go_wp2_with fail;go_ret;exact h.out _ (by have:=i.out;omega)
theorem Db (w:World) (b0 g m n cp:Nat) (A:Option Addr) (l:List Int) (h:GN w b0 g m A n cp l false):
  Calls Tryz.prog 14 #[.pointer (some ⟨g,0,none⟩)] w λe w'=>e= .returned (.tuple #[])/\GN w' b0 g m A n cp l true/\bj w w' (λk=>k=g):=by
 have f:w.cell? ⟨g,7,none⟩ =some (.bool false):=h.cell.cell (i:=7) ω;have d:=h.cell.frozen' (i:=7) ω;have a:bj w (w.setCell ⟨g,7,none⟩ (.bool true)) (λk=>k=g):=bj.setCell (S:=λk=>k=g) (bj.refl w _) (p:= ⟨g,7,none⟩) (.inl rfl) _
 have c:Hid (GN (w.setCell ⟨g,7,none⟩ (.bool true)) b0 g m A n cp l true/\bj w (w.setCell ⟨g,7,none⟩ (.bool true)) (λk=>k=g)):=
  ⟨⟨(h.cell.bC (i:=7) ω _).congr (Cp rfl rfl rfl rfl rfl rfl rfl rfl rfl),h.lo,h.own.fz a (λk b e=>h.ne k b e),h.jU,h.ne⟩,a⟩
 clear h a;go_enter Tryz.func14,Tryz.ntmps14
 go_wp2_with fail;go_end0;exact⟨rfl,c.out⟩
theorem zX (w:World) (b0 g m:Nat) (h:GN w b0 g m none 0 0 [] false) (Q k cp:Nat) (C:Option Addr) (b:List Int) (z:bU .u8 w Q C k b) (x:∀v∈b,0<=v/\v<256) (j:b.length<=100000000000):
  Calls Tryz.prog 13 #[.pointer (some ⟨g,0,none⟩), .slice C k cp] w λe w'=>∃A n c,e= .returned (.tuple #[])/\GN w' b0 g m A n c b false/\bj w w' (λk=>k=g)/\∀q,ai A=some q->w.heap.size<=q:=by
 obtain⟨H,hi,r,o,l⟩ :=aJ jl;have Hi:=η hi;have P:=η r;have O:=η o;have N:=η l;have U:w.cell? ⟨g,1,none⟩ =some (.slice none 0 0):=h.cell.cell (i:=1) ω;have T:w.cell? ⟨g,2,none⟩ =some (.pointer none):=h.cell.cell (i:=2) ω;have S:w.cell? ⟨g,7,none⟩ =some (.bool false):=h.cell.cell (i:=7) ω;have I:=h.own;have K:k<=100000000000:=by rw[z.1];exact j
 have a:=h.cell;have J:b0<=w.heap.size:=au h.lo (cZ a.lt)
 have L:Hid (∀A2 c2 w2,ju .u8 w2 b0 5 A2 (0+k) c2 ([]++b)->w.grownBy w2 (ai none)->(ai A2=ai none\/ai A2=some w.heap.size)->
   GN (w2.setCell ⟨g,1,none⟩ (.slice A2 k c2)) b0 g m A2 k c2 b false/\bj w (w2.setCell ⟨g,1,none⟩ (.slice A2 k c2)) (λk=>k=g)/\∀q,ai A2=some q->w.heap.size<=q):=by
  intro A2 c2 w2 t f y;rw[bZ,aT]at t
  have tR:∀q,ai A2=some q->w.heap.size<=q:=λq d=>by
   rcases y with e | e
   · rw[e]at d;simp [ai]at d
   rw[e]at d;injection d with d;omega
  have s:∀q,ai A2=some q->q≠g:=λq d=>by have:=tR q d;have:=a.lt;omega
  have u:bj w w2 (λk=>k=g):=(bj.refl w _).grown f λq d=>by simp [ai]at d
  have M:Ar w2 g 9 (gcF (TA m none 0 0 [] false)):=((bj.refl w (λ_=>False)).grown f (λq d=>by simp [ai]at d)).ar a (λe=>e);exact⟨⟨(M.bC (i:=1) ω _).congr (Cp rfl rfl rfl rfl rfl rfl rfl rfl rfl),h.lo,t.far (p:= ⟨g,1,none⟩) (λe=>s g e rfl) _,x,s⟩,u.setCell (p:= ⟨g,1,none⟩) (.inl rfl) _,tR⟩
 clear h hi r o l j;go_enter Tryz.func13,Tryz.ntmps13
 go_wp2_with (at_builtin;(refine JK .u8 b0 5 H 1 rfl (.tmp 34) (.tmp 35) _ rfl Tryz.underlying22 Hi.out P.out O.out N.out rfl I rfl z ω ω J ?_)
              intro A2 c2 w2 t f y;have B:=((bj.refl w (λ_=>False)).grown f λq d=>by simp [ai]at d).ar a (λe=>e);have R:=B.frozen' (i:=1) ω;have G:=B.cell (i:=1) ω)
 obtain⟨F,E,D⟩ :=L.out A2 c2 w2 t f y;go_end0;exact⟨_,_,_,rfl,F,E,D⟩
theorem a4U {w:World} {b0 g:Nat} {c:Nat->Nat} {XB:Nat->Prop} {Z:GR} {H:List HV} {hs:List (List Int)} (h:qZ w b0 g c XB Z H hs):∀k,c k≠0->k≠g/\ai Z.A≠some k/\ai Z.Ah≠some k/\¬XB k:=λk a=>
 ⟨λe=>a (by rw[e];exact h.cg),λe=>a (h.cA k e).2.1,λe=>a (h.cH k e).2,λe=>a (h.cX k e).2⟩
theorem a8y {w w':World} {b0 g:Nat} {c c':Nat->Nat} {XB:Nat->Prop} {Z:GR} {H:List HV} {hs:List (List Int)} (h:qZ w b0 g c XB Z H hs) {b1:Nat} (hD:DE b1 w c w' c'):Ext b0 w w' (gX g c XB Z.A Z.Ah) (gX g c' XB Z.A Z.Ah):=
 Ext.of (hD.2.1.more λk a=> .inr (.inr (.inr (.inr a)))) (λk a=>(h.Gf k a).1) h.low λk a=>by
  rcases a with a | a | a | a | a
  · exact .inl (.inl a)
  · exact .inl (.inr (.inl a))
  · exact .inl (.inr (.inr (.inl a)))
  · exact .inl (.inr (.inr (.inr (.inl a))))
  rcases aZ k w.heap.size with b | b
  · exact .inl (.inr (.inr (.inr (.inr (by rw[<-hD.2.2 k b];exact a)))))
  exact .inr b
theorem L4 (w:World) (b0 g:Nat) (c:Nat->Nat) (XB:Nat->Prop) (Z:GR) (H:List HV) (hs:List (List Int)) (h1:qZ w b0 g c XB Z H hs) (T:GT) (bI gd:Nat) (M:DM) (S:DS) (y:List Int) (m0 f:Nat) (O o:List Int) (hp:Z.p=some ⟨gd,0,none⟩) (Cc:g+1<=bI) (hM:jb w bI gd c M S)
  (hy:∀v∈y,0<=v/\v<256) (LJ:y.length<=f) (hf:hs.length+f<=1000001) (AO:m0<=1000000000) (hh:0<hs.length) (hT:T=(O++((eU y m0).1.all++(gT f (eU y m0) m0).1),hs++(gT f (eU y m0) m0).2.1,(gT f (eU y m0) m0).2.2))
  (aE:Z.m+o.length=m0) (yD:Z.C9=yU 0 o) (z:Z.size=(o.length:Int)) (xe:Z.OT=false) (hA:Z.A=none) (hn:Z.n=0) (PG:Z.cp=0) (hl:Z.l=[]) (mf:ZIn (eU y m0) (o++M.out) M S) (Uz:M.out.length<=70000) (bo:Z.en=true) (gU:Z.err=0) (n:Nat) (sr:0<n) (Ff:n<=1000000000):
  Calls Tryz.prog 59 #[.pointer (some ⟨g,0,none⟩), .int .i64 n] w (S7 w b0 g (gX g c XB Z.A Z.Ah) T (O++o) (3*f+4) n):=by
 have bt:=Pm hM.refl mf (n:Int) n ω Ff ω;obtain⟨k0, -,k2, -, -, -, -, -, -⟩ :=h1.cells;rw[hp]at k2;have OE:=η bt;have HH:=η (⟨hp,Cc,xe,hA,hn,PG,hl⟩ :_/\_/\_/\_/\_/\_/\_);have HY:=η (⟨hy,LJ,hf,AO,hh,hT⟩ :_/\_/\_/\_/\_/\_);have I:=η (⟨aE,yD,z,bo,gU⟩ :_/\_/\_/\_/\_);have H1:=η h1;have HN:=η (⟨sr,Ff⟩ :_/\_);have cl:=η Uz;have xj:(0:Int)<n/\(n:Int)<=1000000000:=ω;clear bt mf Uz h1 hM sr Ff hp Cc xe hA hn PG hl hy LJ hf AO hh hT aE yD z bo gU k0;go_enter Tryz.func59,Tryz.ntmps59
 go_wp2_with fail;refine OE.out.mono ?_;rintro e w5 ⟨A5,t,d5,r,C,S5,b5,l,Y,rfl,jL,Lb,JS,ca,Lh,Zy,hE⟩;have NB:=jL.1;have lq:=Rc hE;have nT:(o++M.out)++b5=(o++l)++C.out:=by rw[ak,Lh,ak]
 rw[nT]at hE;have PQ:=Xc hE;obtain⟨t5,ZU⟩ :=PQ.pre;have al:∀v∈l,0<=v/\v<256:=λv hv=>uj y m0 v (by rw[ZU];simp [hv]);have TY:∀v∈o,0<=v/\v<256:=λv hv=>uj y m0 v (by rw[ZU];simp [hv])
 have AK:o.length+l.length<=m0:=by
  have h9:=zZ y m0;rw[ZU]at h9;simp only [List.length_append]at h9;omega
 have nL:∀k,k<w.heap.size->c k=0->Y k=0:=λk b e=>by rw[JS.2.2 k b];exact e
 have h5:qZ w5 b0 g Y XB Z H hs:=H1.out.fz JS.2.1 (a4U H1.out) (λk b=> ⟨by have:=(Lb.cb k b).1;have:=H1.out.lo;have:=HH.out.2.1;omega,(Lb.cb k b).2⟩) nL;have bl:=a8y H1.out JS;have Rt:=yV Z.C9 A5 t d5 w5.heap.size l w5 jL.rd (ag _) (yT al) h5.sm.1 (by have:=HN.out;omega)
 have ab:iq (lW (iq Z.C9) l t)=yU 0 (o++l):=by
  rw[NB,I.out.2.1];exact Yg ω TY
 rw[ab]at Rt;obtain⟨V,F⟩ :=ν (yU 0 (o++l));rw[F]at Rt;obtain⟨-, -, -, -,q4, -⟩ :=h5.cells;obtain⟨s0,an⟩ :=ν (Z.C9);rw[an]at Rt q4;have F4:0<=V/\V<4294967296:=by rw[<-F];exact KE ω (Yw TY al)
 have Ri:=η Rt;have H5:=η (⟨h5,bl,Lb,jL⟩ :_/\_/\_/\_);have HE:=η (⟨hE,PQ,AK,F,lq,NB,Zy⟩ :_/\_/\_/\_/\_/\_/\_);have cj:=η F4;clear Rt h5 bl Lb jL hE PQ ZU t5 al TY AK F lq NB Zy ab an F4 nT Lh JS nL ca
 go_wp2_with fail;refine Ri.out.mono ?_;rintro e w6 ⟨rfl,mb⟩;have h6:=H5.out.1.keeps mb;have Ry:=H5.out.2.2.1.keeps mb;have kQ:=H5.out.2.2.2.keeps mb;have bi:=H5.out.2.1.trans (Ext.of (bj.bA (S:=gX g Y XB Z.A Z.Ah) mb) (λk b=>(H5.out.1.Gf k b).1) H5.out.1.low (λk b=> .inl b));obtain⟨k0, -,k2, -,k4,bE, -, -, -⟩ :=h6.cells;have z0:=h6.Rp (i:=0) ω;have z4:=h6.Rp (i:=4) ω;have z5:=h6.Rp (i:=5) ω;rw[HH.out.1]at k2;rw[I.out.2.2.1]at bE;have yI:l.length=t:=HE.out.2.2.2.2.2.1.symm;obtain⟨hE,PQ,AK,F,lq,NB,Zy⟩ :=HE.out;have cc:l.length<=Z.m:=by have:=I.out.1;omega
 obtain⟨m1,rG⟩ :=ν (Z.m-t);have Gu:(Z.m:Int)-(t:Int)=(m1:Int):=ω;have cx:IntKind.i64.wrap ((Z.m:Int)-(t:Int))=(m1:Int):=by rw[Gu];exact aK _ (by have:=HY.out.2.2.2.1;have:=I.out.1;omega)
 have cz:(0:Int)<=(m1:Int)/\(m1:Int)<=1000000000:=by have:=HY.out.2.2.2.1;have:=I.out.1;omega
 have cB:(o.length:Int)+(t:Int)<=1000000000/\(0:Int)<=(o.length:Int)/\(0:Int)<=(t:Int)/\(t:Int)<=1000000000:=by have:=HY.out.2.2.2.1;omega
 have cA:IntKind.u32.wrap (t:Int)=(t:Int):=IntWalk.u32_in _ ω;obtain⟨J,z⟩ :=ν ((o.length:Int)+(t:Int):Int);have cv:IntKind.u32.wrap ((o.length:Int)+(t:Int))=J:=by rw[z];exact IntWalk.u32_in _ ω
 obtain⟨W,hW⟩ :=ν (((w6.setCell ⟨g,4,none⟩ (.int .u32 V)).setCell ⟨g,5,none⟩ (.int .u32 J)).setCell ⟨g,0,none⟩ (.int .i64 (m1:Int)))
 have d:bj w6 W (λk=>k=g):=by
  rw[<-hW];exact(((bj.refl w6 (λk=>k=g)).setCell (p:= ⟨g,4,none⟩) (.inl rfl) _).setCell (p:= ⟨g,5,none⟩) (.inl rfl) _).setCell (p:= ⟨g,0,none⟩) (.inl rfl) _
 have gg:Ar W g 9 (gcF { Z with C9:=V,size:=J,m:=m1 }):=by
  rw[<-hW];exact(((h6.cell.bC (i:=4) ω _).bC (i:=5) ω _).bC (i:=0) ω _).congr (Cp rfl rfl rfl rfl rfl rfl rfl rfl rfl)
 have h7:qZ W b0 g Y XB { Z with C9:=V,size:=J,m:=m1 } H hs:=h6.turn d gg (h6.a43 d) ⟨rfl,rfl,rfl⟩ ⟨cj.out,by show 0<=J/\J<4294967296;omega⟩;have U:=Ry.aside d (λk b=>by rw[b];exact h6.cg);have Ay:=bi.trans (Ext.of (d.more λk b=>(.inl b:gX g Y XB Z.A Z.Ah k)) (λk b=>(h6.Gf k b).1) h6.low (λk b=> .inl b))
 have ao:bU .u8 W W.heap.size A5 t l:=(d.rA kQ.rd (ag _) (λh0 ad e b=>by
  have X:ai A5=some ad.block:=by rw[e];rfl
  have G:=(kQ.2.lt X).1;have h9:ad.block=g:=b;have:=HH.out.2.1;omega)).more d.size
 have ap:∀ah,ah=hs->Ep W (g+1) Y T ((O++o)++l) ah (3*f+4) { Z with C9:=V,size:=J,m:=m1 }:=λah e=>by
  subst e;obtain⟨hp,Cc,xe,hA,hn,PG,hl⟩ :=HH.out;obtain⟨hy,LJ,hf,AO,hh,hT⟩ :=HY.out;exact .inr ⟨bI,gd,C,S5,y,m0,f,O,o++l,hp,Cc,U,hy,LJ,hf,AO,hh,hT,by show m1+_=m0;rw[af];have:=I.out.1;omega,by rw[ak],F.symm,by show J=_;rw[af];omega, .inl ⟨xe,rfl,hA,hn,PG,hl,PQ,by have:=cl.out;omega⟩⟩
 have Lv:m1<=1000000000:=by have:=HY.out.2.2.2.1;have:=I.out.1;omega
 have bs:Z.l.length<=1000000:=by rw[HH.out.2.2.2.2.2.2];simp
 have R:Hid (∀v:Int,((v=0/\0<l.length)\/(v≠0/\l=[]/\O++o=T.1/\hs=T.2.1/\v=T.2.2))->S7 w b0 g (gX g c XB Z.A Z.Ah) T (O++o) (3*f+4) n (.returned (.tuple #[.slice A5 t d5, .int .i64 v])) W):=λv hv=>by
  refine⟨A5,t,d5,l,v,Y,XB,_,H,hs,3*f+4,rfl,ao,lq,h7,ap hs rfl,I.out.2.2.2.1,I.out.2.2.2.2,Lv,bs,Ay, ?_⟩;rcases hv with ⟨h,h'⟩ | h
  · exact .inl ⟨h, .inr ⟨rfl,h'⟩⟩
  exact .inr h
 have I3:T.1=O++((eU y m0).1.all++(gT f (eU y m0) m0).1)/\T.2.1=hs++(gT f (eU y m0) m0).2.1/\T.2.2=(gT f (eU y m0) m0).2.2:=by rw[HY.out.2.2.2.2.2];exact⟨rfl,rfl,rfl⟩
 have ac:l=[]->(eU y m0).2≠8->(eU y m0).1.all=o->O++o=T.1/\hs=T.2.1/\(eU y m0).2=T.2.2:=λe1 X e3=>by
  obtain⟨t1,t2,t3⟩ :=I3;rw[L0 X]at t1 t2 t3;exact⟨by rw[t1,e3];simp,by rw[t2];simp,t3.symm⟩
 have HK:=η (⟨h7,U,Ay,ac,I3,Lv,z,F⟩ :_/\_/\_/\_/\_/\_/\_/\_);have HW:=η hW
 have ct:W.cell? ⟨g,2,none⟩ =some (.pointer (some ⟨gd,0,none⟩)):=by
  obtain⟨-, -,q2, -⟩ :=h7.cells;rw[q2];show some (Value.pointer Z.p)=_;rw[HH.out.1]
 unfold MS at hE;have Rj:=η hE;have N:=η NB;clear h6 Ry kQ bi mb hE PQ AK F lq NB Zy cc rG z hW d gg h7 U Ay ao ap Lv bs I3 ac yI;have d:=Rj.out;clear Rj;rcases d with ⟨rfl,q1,q2⟩ | ⟨rfl,q1,q2,q3⟩ | ⟨q1,q2,q3,q4,q5,q6,q7⟩
 · have Dp:(0:Int)<(t:Int)/\0<t:=by have:=N.out;have:=HN.out;omega
   have hf:=η (R.out 0 (.inl ⟨rfl,by have:=N.out;omega⟩));clear q2 R
   go_wp2_with fail;rw[HW.out];go_returns;exact hf.out
 · by_cases Dp:0<t
   · have Zr:(0:Int)<(t:Int):=ω;have hf:=η (R.out 0 (.inl ⟨rfl,by have:=N.out;omega⟩));clear q2 q3 R
     go_wp2_with fail;rw[HW.out];go_returns;exact hf.out
   have E:l=[]:=aC (by have:=N.out;omega)
   have hf:=η (R.out 5 (.inr ⟨δ,E,by
    rcases q3 with ⟨s,q3,q4⟩ | ⟨q3,_⟩
    · obtain⟨e1,X⟩ :=MI q3 q4;rw[q2,ax,E,ax]at X;have:=HK.out.2.2.2.1 E (by rw[e1];decide) X;rw[e1]at this;exact this
    rw[E]at q3;simp at q3⟩))
   have Zr:¬(0:Int)<(t:Int):=ω;clear q2 q3 R
   go_wp2_with fail;rw[HW.out];go_returns;exact hf.out
 have Dp:t=0:=by have:=N.out;rw[q4]at this;simpa using this
 have bB:=η Dp
 have u:(eU y m0).1.all=o:=by
  have X:=q7.all;rw[q6,ax,q4,ax]at X;exact X
 have Zr:¬(0:Int)<(t:Int):=ω;clear Dp;by_cases P:r=8
 rotate_left
 · have cw:(r==8)=false:=by simpa using P
   have hf:=η (R.out r (.inr ⟨q1,q4,by
    have:=HK.out.2.2.2.1 q4 (by rw[<-q3];exact P) u;rw[<-q3]at this;exact this⟩))
   clear q1 q2 q3 q5 q6 q7 R P u
   go_wp2_with fail;rw[HW.out];go_returns;exact hf.out
 obtain rfl:r=8:=P;obtain⟨h7,U,Ay, -,I3,Lv,z,F⟩ :=HK.out;have D:(eU y m0).2=8:=q3.symm;have bp:S5.err=8:=by rw[q7.err];exact D
 obtain⟨bx,bv⟩ :=q7.at8 D;have am:=a89 (s:=start (gG y) m0) (.start (dJ.gG _) m0) D;have tU:=bv.even (.inr (.inr am));have Du:=bx.x;rw[<-Du,im]at tU;have ce:=U.mg.le;have tM:=KO U.refl bp ω
 have um:gG (C.B.drop (C.a/8))=(eU y m0).1.x:=by
  rw[zI,<-Du];unfold rb;rw[show 8*(C.a/8)=C.a by omega]
 have L:∀v∈C.B.drop (C.a/8),0<=v/\v<256:=λv hv=>U.mg.jU v (aX hv);have K:C.B.drop (C.a/8)=jO (eU y m0).1.x:=by rw[<-um,vu L]
 obtain⟨j,ch,RF, -⟩ :=Pv D HY.out.1;have JV:(C.B.drop (C.a/8)).length<=y.length:=by rw[K,RF,av];omega
 have oL:g<W.heap.size:=h7.cell.lt;have be:=h7.cell;have Gk:=η tM;have cm:=η (⟨D,L,K,JV⟩ :_/\_/\_/\_);have ck:=η (⟨q4,u⟩ :_/\_);clear tU Du ce tM D bp am bx bv um L K JV RF ch j q1 q2 q3 q5 q6 q7 R h7 U Ay q4 I3 Lv z F u
 go_wp2_with fail;rw[HW.out];refine Gk.out.mono ?_;rintro e w7 ⟨A7,k7,c7,rfl,Ch,c8,Di,YG,Xy⟩;have ci:Y g=0:=HK.out.1.cg;have rF:=YG.2.1.ar be (λe=>e ci);have cq:=rF.frozen' (i:=1) ω;have co:=rF.frozen' (i:=3) ω;have cs:=rF.cell (i:=1) ω;have cr:=rF.cell (i:=3) ω
 have hf:Hid (S7 w b0 g (gX g c XB Z.A Z.Ah) T (O++o) (3*f+4) n (.returned (.tuple #[.slice none 0 0, .int .i64 0])) ((w7.setCell ⟨g,1,none⟩ (.slice A7 k7 c7)).setCell ⟨g,3,none⟩ (.bool true))):=by
  obtain⟨h7,U,Ay, -,I3,Lv,z,F⟩ :=HK.out;obtain⟨D,L,K,JV⟩ :=cm.out;obtain⟨hp,Cc,xe,hA,hn,PG,hl⟩ :=HH.out;obtain⟨hy,LJ,hf,AO,hh,hT⟩ :=HY.out;obtain⟨E,u⟩ :=ck.out;have Rq:∀q,ai A7=some q->W.heap.size<=q:=λq Q=>(Ch.2.lt Q).1;have Pz:ai A7≠some g:=λe=>by have:=Rq g e;omega
  have Za:∀k,k<W.heap.size->Y k=0->c8 k=0:=λk b e=>by rw[YG.2.2 k b];exact e
  have G:qZ w7 b0 g c8 XB { Z with C9:=V,size:=J,m:=m1 } H hs:=h7.fz YG.2.1 (a4U h7) (λk b=> ⟨by have:=(Di.cb k b).1;have:=h7.lo;omega,(Di.cb k b).2⟩) Za;have d:bj w7 ((w7.setCell ⟨g,1,none⟩ (.slice A7 k7 c7)).setCell ⟨g,3,none⟩ (.bool true)) (λk=>k=g):=((bj.refl w7 (λk=>k=g)).setCell (p:= ⟨g,1,none⟩) (.inl rfl) _).setCell (p:= ⟨g,3,none⟩) (.inl rfl) _;have cd:∀k,ai Z.Ah=some k->k<W.heap.size:=λk b=>(h7.hdr.own.lt b).2
  refine⟨none,0,0,[],0,c8,XB,{ Z with C9:=V,size:=J,m:=m1,A:=A7,n:=k7,cp:=c7,l:=C.B.drop (C.a/8),OT:=true },H,hs,3*f+3,rfl, ⟨rfl,Rd.dK⟩,aF _, ⟨?_,h7.lo, ?_,G.hdr.fz d (λk b e=>(G.cH k e).1 b) (λk b e=>(G.cX k e).1 b),L,G.cg,λq Q=> ⟨λe=>Pz (by rw[Q,e]),Xy q Q,λe=> ?_,λe=> ?_⟩,G.cH,G.cX,λq Q=> ⟨(G.cb q Q).1,aD (G.cb q Q).2 d.size⟩,G.sm⟩,
   .inr ⟨bI,gd,_,S5,y,m0,f,O,o,hp,Cc,Di.aside d (λk b=>by rw[b];exact G.cg),hy,LJ,hf,AO,hh,hT, ?_,by rw[ax], ?_, ?_, .inr ⟨rfl,rfl,D,u.symm,K,by show(C.B.drop (C.a/8)).length<=f;omega⟩⟩,I.out.2.2.2.1,I.out.2.2.2.2,Lv,by show(C.B.drop (C.a/8)).length<=1000000;omega,Ay.trans ⟨?_, ?_,λk b=> ?_⟩, .inl ⟨rfl, .inl ω⟩⟩
  · exact((G.cell.bC (i:=1) ω _).bC (i:=3) ω _).congr (Cp rfl rfl rfl rfl rfl rfl rfl rfl rfl)
  · exact((Ch.more h7.low).up.far (p:= ⟨g,1,none⟩) Pz _).far (p:= ⟨g,3,none⟩) Pz _
  · have:=Rq q Q;have:=cd q e;omega
  · have:=Rq q Q;have:=(h7.hdr.xb q e).2.1;omega
  · show m1+o.length=m0;have:=I.out.1;have:=Gu;have:=bB.out;omega
  · show V=_;rw[<-F,E,ax]
  · show J=_;have:=bB.out;omega
  · exact((YG.1.mono (by have:=h7.lo;omega)).setCell (p:= ⟨g,1,none⟩) h7.lo _).setCell (p:= ⟨g,3,none⟩) h7.lo _
  · exact((YG.2.1.more λk b=> .inr (.inr (.inr (.inr b)))).setCell (p:= ⟨g,1,none⟩) (.inl (.inl rfl)) _).setCell (p:= ⟨g,3,none⟩) (.inl (.inl rfl)) _
  rcases b with b | b | b | b | b
  · exact .inl (.inl b)
  · exact .inr (Rq k b)
  · exact .inl (.inr (.inr (.inl b)))
  · exact .inl (.inr (.inr (.inr (.inl b))))
  rcases aZ k W.heap.size with h | h
  · exact .inl (.inr (.inr (.inr (.inr (by rw[<-YG.2.2 k h];exact b)))))
  exact .inr h
 clear Ch Di YG Xy rF be Gk
 go_wp2_with fail;go_returns;exact hf.out
theorem Ex.push {w w1 w2:World} {b0:Nat} {XB:Nat->Prop} {A A2:Option Addr} {n cp c2:Nat} {H:List HV} {hs:List (List Int)} (h:Ex w b0 XB A n cp H hs) (c:Below w.heap.size w w1) (x:List Int) {X:Option Addr} {m cc:Nat} (z:m<=cc) (o:cc<=maxLen) (r:bU .u8 w1 w1.heap.size X m (yy x))
  (s:∀k,ai X=some k->w.heap.size<=k) (C:b0<=w.heap.size) (g:bj w1 w2 (λk=>ai A=some k)) (y:Own w2 b0 31 11 A2 (n+1) c2 (cat (n*11) (Aq H) (Aq [CI x (.slice X m cc)]))) (j:∀k,ai A2=some k->ai A=some k\/w1.heap.size<=k):
  Ex w2 b0 (λk=>XB k\/(0<m/\ai X=some k)) A2 (n+1) c2 (H++[CI x (.slice X m cc)]) (hs++[x]):=by
 have p:0<m->∀k,ai X=some k->k<w1.heap.size:=λb k a=>by
  obtain⟨d,rfl,B,_⟩ :=r.2 b;simp [ai]at a;omega
 have t:∀k,ai A=some k->k<w.heap.size:=λk a=>(h.own.lt a).2;refine⟨y.congr λi hi=>by rw[h.n_,Zg],by rw[h.n_,af];rfl,by rw[af,af,h.len];rfl,λi hi=> ?_,λk a=> ?_⟩
 · rw[af]at hi;by_cases l:i<hs.length
   · obtain⟨I,v,q,G,F,E,D,u⟩ :=h.ex i l;refine⟨I,v,q, ?_,F,E, ?_,λd e b=> .inl (u d e b)⟩
     · rw[aq,bJ (by rw[h.len];exact l),aq,bJ l,<-aq,<-aq];exact G
     rw[aq,bJ l,<-aq];have f:=(bj.bA (S:=λk=>ai A=some k) c).trans g λk a=> .inl a;exact(f.rA D (ag _) (λb d e hF=>(h.xb _ (u d e b)).2.2 hF)).more f.size
   obtain rfl:i=hs.length:=by simp at hi;omega
   refine⟨X,m,cc, ?_,z,o, ?_,λd e b=> .inr ⟨b,by rw[e];rfl⟩⟩
   · rw[aq,bF (by rw[h.len];exact ag _),h.len,aq,bF (ag _),dR];rfl
   rw[aq,bF (ag _),dR];exact(g.rA r (ag _) (λb d e hF=>by have h5:=t _ hF;have h6:=s d.block (by rw[e];rfl);omega)).more g.size
 rcases a with a | ⟨b,a⟩
 · have f:=h.xb k a;refine⟨f.1,by have:=c.size;have:=g.size;omega,λe=> ?_⟩;rcases j k e with h4 | h4
   · exact f.2.2 h4
   have:=c.size;omega
 have f:=s k a;have h4:=p b k a;refine⟨ω,by have:=g.size;omega,λe=> ?_⟩;rcases j k e with h5 | h5
 · have:=t k h5;omega
 omega
theorem L3 (w:World) (b0 g:Nat) (c:Nat->Nat) (XB:Nat->Prop) (Z:GR) (H:List HV) (hs:List (List Int)) (T:GT) (a:List Int) (f:Nat) (h1:qZ w b0 g c XB Z H hs) (hp:Z.p=none) (xe:Z.OT=false) (y:∀k,c k=0) (hf:Z.l.length<f) (I:hs.length+f<=1000001)
  (hT:T=(a++(gz f Z.l Z.m (decide (0<hs.length))).1,hs++(gz f Z.l Z.m (decide (0<hs.length))).2.1,(gz f Z.l Z.m (decide (0<hs.length))).2.2)) (D:Z.en=true) (gU:Z.err=0) (hm:Z.m<=1000000000) (nH:Z.l.length<=1000000):
  Calls Tryz.prog 57 #[.pointer (some ⟨g,0,none⟩)] w (zx w b0 g (gX g c XB Z.A Z.Ah) T a (3*f+2)):=by
 obtain⟨f',rfl⟩ :∃f',f=f'+1:= ⟨f-1,ω⟩
 have bad:Hid (∀v w1,Below w.heap.size w w1->gz (f'+1) Z.l Z.m (decide (0<hs.length))=([],[],v)->v≠0->zx w b0 g (gX g c XB Z.A Z.Ah) T a (3*(f'+1)+2) (.returned (.int .i64 v)) w1):=λv w1 hb e Q=>by
  have L:=hT;rw[e]at L;refine⟨v,c,XB,Z,H,hs,3*(f'+1)+2,rfl,h1.keeps hb,Ep.keeps (.inl ⟨hp,xe,y,f'+1,hf,I,rfl,hT⟩) hb,D,gU,hm,nH,Ext.of (bj.bA hb) (λk b=>(h1.Gf k b).1) h1.low (λk b=> .inl b), .inr ⟨Q,by rw[L];simp,by rw[L];simp,by rw[L]⟩⟩
 have good:Hid (jM Z.l=0->¬(Z.l=[]/\0<hs.length)->∀(U:World) (C:Nat->Nat) (ab:Nat->Prop) (Z':GR) (H':List HV) (bI gd:Nat) (M:DM) (S:DS),qZ U b0 g C ab Z' H' (hs++[Z.l])->Z'.p=some ⟨gd,0,none⟩->g+1<=bI->jb U bI gd C M S->ZIn (eU (Z.l.drop (rN Z.l)) Z.m) ([]++M.out) M S->M.out.length<=70000->
   (Z'.m=Z.m/\Z'.C9=0/\Z'.size=0/\Z'.OT=false/\Z'.A=none/\Z'.n=0/\Z'.cp=0/\Z'.l=[]/\Z'.en=true/\Z'.err=0)->Ext b0 w U (gX g c XB Z.A Z.Ah) (gX g C ab Z'.A Z'.Ah)->zx w b0 g (gX g c XB Z.A Z.Ah) T a (3*(f'+1)+2) (.returned (.int .i64 0)) U):=by
  intro hq dj U C ab Z' H' bI gd M S k1 k2 k3 k4 k5 k6 ⟨z1,z2,z3,z4,z5,z6,z7,z8,z9,cE⟩ k7;have L:=hT;rw[Nq (by simpa using dj) hq]at L;refine⟨0,C,ab,Z',H',hs++[Z.l],3*f'+4,rfl,k1, .inr ⟨bI,gd,M,S,Z.l.drop (rN Z.l),Z.m,f',a,[],k2,k3,k4,λv hv=>h1.jU v (aX hv),by rw[av];omega,by rw[af];simp;omega,hm,by rw[af];simp, ?_,by rw[z1];rfl,by rw[ax],by rw[z2];exact(Yh (s:=0) ω).symm,by rw[z3];rfl, .inl ⟨z4,rfl,z5,z6,z7,z8,k5,k6⟩⟩,z9,cE,by rw[z1];exact hm,by rw[z8];simp,k7, .inl ⟨rfl,ω⟩⟩;rw[L,ak];rfl
 have ah:Z.nh=hs.length:=h1.hdr.n_.trans h1.hdr.len;obtain⟨k0,ki, -, -, -, -,k6,k7, -⟩ :=h1.cells;have ho:=h1.own;have Y:=h1.jU;have H1:=η h1;have HB:=η (⟨hf,I,hm,nH,y,hp,xe,D,gU⟩ :_/\_/\_/\_/\_/\_/\_/\_/\_);obtain⟨A,hA⟩ :=ν (Z.A);obtain⟨n,hn⟩ :=ν (Z.n);obtain⟨d,hd⟩ :=ν (Z.cp);obtain⟨l,hl⟩ :=ν (Z.l);obtain⟨nh,ZB⟩ :=ν (Z.nh);rw[hA,hn,hd,hl]at ho;rw[hA,hn,hd]at ki;rw[hl]at bad good Y nH;rw[ZB]at k6 ah;rw[D]at k7;have fX:=ho.1;have eL:=ho.jD;have HZ:=η (⟨hA,hn,hd,hl,ZB⟩ :_/\_/\_/\_/\_);by_cases oh:n=0/\0<nh
 · obtain⟨rfl,Q⟩ :=oh;have ao:l=[]:=aC fX.symm;have bX:=η (bad.out 8 w (aw _ _) (by rw[ao,aS (by omega:0<hs.length)];exact EY _ _) δ);have cw:(0:Int)<(nh:Int):=ω;clear bad good h1 ho fX hT hf I hA hn hd hl ZB ah ao Y eL nH hm hp xe y D gU;go_enter Tryz.func57,Tryz.ntmps57
   go_wp2_with fail;go_ret;exact bX.out
 have Fh:¬(l=[]/\0<hs.length):=λh=>oh ⟨by rw[fX,h.1];rfl,ω⟩;have cz:=η (Qx w w.heap.size n d A l ho.rd (ag _) ω eL Y);have r:(0<n)\/(n=0/\nh=0):=ω;obtain⟨Ah,bs⟩ :=ν (Z.Ah);obtain⟨ch,be⟩ :=ν (Z.ch);obtain⟨i1,hi,ci,ce,cd⟩ :=aJ Un;have HI:=η (⟨hi,ci,ce,cd⟩ :_/\_/\_/\_);obtain⟨i0,ji,dd,ca,db⟩ :=aJ jl;by_cases hq:jM l=0
 rotate_left
 · have u:=η (λw1 hb=>bad.out (jM l) w1 hb (EW (by simpa using Fh) hq) hq);have HQ:=η hq;clear bad good h1 ho hT hf I hA hn hd hl ZB ah Y eL nH hm hp xe y D gU oh Fh fX;rcases r with Q | ⟨rfl,rfl⟩
   all_goals
    try (have cw:¬(n:Int)=0/\(0:Int)<(n:Int):=ω)
    try (have dq:((n:Int)==0)=false:=ξ)
    clear hq;go_enter Tryz.func57,Tryz.ntmps57
    go_wp2_with fail;refine cz.out.mono ?_;rintro e w1 ⟨X,m,cc,xl,Fc,V,hr,hX,q,(⟨Q,_⟩ | ⟨Q,rfl⟩)⟩
    · exact absurd Q HQ.out
    have an:=η (λo=>q.alloc q.size o);obtain⟨v,hv⟩ :=ν (jM l);rw[hv]at u Q⊢;have ef:(v != 0)=true:=by simpa using Q
    have ee:(v==0)=false:=by simpa using Q
    clear hr hX q hv;unfold hagg hz;dsimp only
    go_wp2_with fail;go_ret;exact u.out _ (an.out _)
 have Q:0<n:=by
  rcases r with h | ⟨h,_⟩
  · exact h
  have ao:l=[]:=aC ω;rw[ao]at hq;exact absurd hq δ
 clear r;have dP:=η (λU C ab Z' H' bI gd M S=>good.out hq Fh U C ab Z' H' bI gd M S);obtain⟨J,bp⟩ :=ν (rN l);have hJ:J<=n:=by rw[<-bp,fX];exact MX l
 have oP:∀W,(Instr.slice 22 (.slice A n d) (some (.int .i64 (J:Int))) none none).run Tryz.prog W= .ok (.slice (dx A d J) (n-J) (d-J)) W:=λW=>dc (P:=Tryz.prog) 22 5 Tryz.underlying22 ji ca A n d hJ W;obtain⟨A9,Hz⟩ :=ν (dx A d J);obtain⟨n9,Lz⟩ :=ν (n-J);obtain⟨d9,PH⟩ :=ν (d-J);rw[Hz,Lz,PH]at oP;have et:(0:Int)<=(J:Int)/\(J:Int)<=(n:Int)/\(n:Int)<=1000000:=ω;have HQ:=η hq;have HJ:=η (⟨bp,hJ,Hz,Lz,PH,fX,Y,nH,eL⟩ :_/\_/\_/\_/\_/\_/\_/\_/\_);have Rl:=η oP;have O:=η (⟨bs,be⟩ :_/\_);rw[bs,be]at k6;have eg:nh<=1000000:=by rw[ah];omega
 clear bad good h1 ho hT hf I hA hn hd hl ZB ah Y eL nH hm hp xe y D gU oh Fh fX bp Hz Lz PH hJ oP hi ci ce cd ji dd ca db bs be
 try (have cw:¬(n:Int)=0/\(0:Int)<(n:Int):=ω)
 try (have dq:((n:Int)==0)=false:=ξ)
 clear hq;go_enter Tryz.func57,Tryz.ntmps57
 go_wp2_with fail;refine cz.out.mono ?_;rintro e w1 ⟨X,m,cc,xl,Fc,V,hr,hX,q,(⟨Q,nH,rfl⟩ | ⟨Q,_⟩)⟩
 case inr=>exact absurd HQ.out Q
 subst nH;obtain⟨hv,G⟩ :=ν (CI l (.slice X m cc));have aE:hv.ex= .slice X m cc:=by rw[<-G];rfl
 rw[G,HJ.out.1]
 have an:=λt=>Ar.new w1 #[.bool hv.tx, .bool hv.sm, .int .u32 hv.tm, .int .u8 hv.fl, .int .u8 hv.sy, .slice X m cc, .bool hv.hE, .string hv.nm, .string hv.cm, .bool hv.hN, .bool hv.hC] t (m:=11) (f:=hf hv) rfl (λi hi=>by
  rcases rL hi with rfl | rfl | rfl | rfl | rfl | rfl | rfl | rfl | rfl | rfl | rfl;all_goals first | rfl | exact aL some aE.symm)
 have bv:=η (⟨Fc,V,hr,hX,q,G⟩ :_/\_/\_/\_/\_/\_);have dp:g<w1.heap.size:=by have:=H1.out.cell.lt;have:=q.size;omega
 clear Fc V hr hX q Q;have GD:=η aE;unfold hagg;rw[aE];clear aE G;go_upto_region 6 with fail
 obtain⟨o,ho⟩ :=ν ((Obj.cells #[.bool hv.tx, .bool hv.sm, .int .u32 hv.tm, .int .u8 hv.fl, .int .u8 hv.sy, .slice X m cc, .bool hv.hE, .string hv.nm, .string hv.cm, .bool hv.hN, .bool hv.hC] 31));have tR:=an 31;have u:=bv.out.2.2.2.2.1.alloc bv.out.2.2.2.2.1.size o;have ln:Below w1.heap.size w1 (w1.alloc o):=(aw _ _).alloc (ag _) o;rw[ho]at tR⊢;obtain⟨w2,cl⟩ :=ν (w1.alloc o);rw[cl]at tR u ln⊢;obtain⟨K,hK⟩ :=ν (w1.heap.size);rw[hK]at tR dp⊢;have es:¬K=g:=ω;have er:¬g=K:=ω;obtain⟨r0,r1,r2,r3,r4,r5,r6,r7,r8,r9,wI⟩ :=PJ tR;rw[GD.out]at r5;have z:=H1.out.keeps u;obtain⟨g0,g1, -, -, -, -,g6, -⟩ :=z.cells;have z6:=z.Rp (i:=6) ω;obtain⟨N,hN⟩ :=ν (Z.nh);have ej:N<=1000000:=by rw[<-hN,HZ.out.2.2.2.2];omega
 rw[O.out.1,hN,O.out.2]at g6
 have cx:∀o,(w2.alloc o).cell? ⟨g,6,none⟩ =some (.slice Ah N ch):=λo=>by
  have h:=(z.cell.alloc o).cell (i:=6) ω;rw[h,<-O.out.1,<-O.out.2,<-hN];rfl
 have ad:=z.hdr.own;rw[O.out.1,hN,O.out.2]at ad;have HN:=η hN;clear hN;have dk:b0<=w2.heap.size:=z.low;have bx:=η (⟨z,u,ln,hK⟩ :_/\_/\_/\_);have cW:=Zl w2 hv 31;rw[GD.out]at cW;have du:=cx (.cells #[.bool hv.tx, .bool hv.sm, .int .u32 hv.tm, .int .u8 hv.fl, .int .u8 hv.sy, .slice X m cc, .bool hv.hE, .string hv.nm, .string hv.cm, .bool hv.hN, .bool hv.hC] 31);clear cx;have Q1:∀j,j<1*11->(Aq [hv] j).oneCell'=true:=λj _=>Zh (λx hx=>by simp at hx;subst hx;exact⟨X,m,cc,GD.out⟩) j;clear an tR z u ln cl hK ho
 go_region_law
  ((refine QS b0 i1 rfl (.tmp 42) (.tmp 44) rfl HI.out.1 HI.out.2.1 HI.out.2.2.1 HI.out.2.2.2 rfl (ad.alloc _) rfl cW Q1 ω ξ ?_)
   intro R C w5 kQ lX iF;have nL:bj w2 w5 (λk=>ai Ah=some k):=(((bj.refl w2 (λk=>ai Ah=some k)).drew).alloc _).grown lX (λk b=> .inl b);have gS:=nL.ar bx.out.1.cell (λe=>(bx.out.1.cH g (by rw[O.out.1];exact e)).1 rfl);have cD:=gS.frozen' (i:=6) ω;have cL:w5.cell? ⟨g,6,none⟩ =some (.slice Z.Ah Z.nh Z.ch):=gS.cell (i:=6) ω)
 all_goals
  obtain⟨z,u,ln,hK⟩ :=bx.out;obtain⟨Fc,V,hr,hX,q,G⟩ :=bv.out;obtain⟨hf,I,hm,nH,y,hp,xe,D,gU⟩ :=HB.out;have de:=u.size
  have Dh:∀k,ai R=some k->ai Ah=some k\/w2.heap.size<=k:=λk b=>by
   rcases iF with e | e
   · exact .inl (e▸b)
   rw[e]at b;injection b with b;exact .inr (by rw[<-b];simp)
  have cv:∀k,ai Ah=some k->k≠g/\k<w.heap.size:=λk b=> ⟨(z.cH k (by rw[O.out.1];exact b)).1,(H1.out.hdr.own.lt (by rw[O.out.1];exact b)).2⟩;have oL:g<w.heap.size:=H1.out.cell.lt
  have bt:∀k,ai R=some k->k≠g:=λk b=>by
   rcases Dh k b with e | e
   · exact(cv k e).1
   omega
  have bo:∀k,(XB k\/(0<m/\ai X=some k))->k≠g:=λk b=>by
   rcases b with b | ⟨_,b⟩
   · exact(z.cX k b).1
   have:=hX k b;omega
  have ct:Ex w5 b0 (λk=>XB k\/(0<m/\ai X=some k)) R (N+1) C (H++[hv]) (hs++[l]):=by
   have h9:=H1.out.hdr;rw[O.out.1,HN.out,O.out.2]at h9;have h8:=Ex.push h9 u l Fc V ((hr.below ln).more ln.size) hX H1.out.low nL (A2:=R) (c2:=C) (by rw[G];exact kQ) Dh;rw[G]at h8;exact h8
  have r:bj w5 (w5.setCell ⟨g,6,none⟩ (.slice R (N+1) C)) (λk=>k=g):=bj.setCell (S:=λk=>k=g) (bj.refl w5 _) (p:= ⟨g,6,none⟩) (.inl rfl) _;have nT:∀k,ai Z.A=some k->k<w.heap.size:=λk b=>(H1.out.own.lt b).2
  have h3:qZ (w5.setCell ⟨g,6,none⟩ (.slice R (N+1) C)) b0 g c (λk=>XB k\/(0<m/\ai X=some k)) { Z with Ah:=R,nh:=N+1,ch:=C } (H++[hv]) (hs++[l]):=
   ⟨(gS.bC (i:=6) ω _).congr (Cp rfl rfl rfl rfl rfl rfl rfl rfl rfl),z.lo,(z.own.fz nL (λk b e=>(z.cA k b).2.2.1 (by rw[O.out.1];exact e))).fz r (λk b e=>(z.cA k b).1 e),ct.fz r (λk b e=>bt k e b) (λk b e=>bo k e b),z.jU,z.cg,λk b=> ⟨(z.cA k b).1,y k,λe=>by
     rcases Dh k e with e | e
     · exact(z.cA k b).2.2.1 (by rw[O.out.1];exact e)
     · have:=nT k b;omega,λe=>by
     rcases e with e | ⟨_,e⟩
     · exact(z.cA k b).2.2.2 e
     have:=nT k b;have:=hX k e;omega⟩,λk b=> ⟨bt k b,y k⟩,λk b=> ⟨bo k b,y k⟩,λk b=>absurd (y k) b,z.sm⟩
  have cj:Ext b0 w (w5.setCell ⟨g,6,none⟩ (.slice R (N+1) C)) (gX g c XB Z.A Z.Ah) (gX g c (λk=>XB k\/(0<m/\ai X=some k)) Z.A R):=by
   have dl:bj w (w5.setCell ⟨g,6,none⟩ (.slice R (N+1) C)) (gX g c XB Z.A Z.Ah):=
    ((bj.bA (S:=gX g c XB Z.A Z.Ah) u).trans nL λk b=> .inl (.inr (.inr (.inl (by rw[O.out.1];exact b))))).trans r λk b=> .inl (.inl b)
   refine Ext.of dl (λk b=>(H1.out.Gf k b).1) H1.out.low λk b=> ?_;rcases b with b | b | b | (b | ⟨_,b⟩) | b
   · exact .inl (.inl b)
   · exact .inl (.inr (.inl b))
   · rcases Dh k b with e | e
     · exact .inl (.inr (.inr (.inl (by rw[O.out.1];exact e))))
     exact .inr ω
   · exact .inl (.inr (.inr (.inr (.inl b))))
   · exact .inr (hX k b)
   exact absurd (y k) b
  have H3:=η (⟨h3,cj⟩ :_/\_);have PU:=hm;clear z u ln hK Fc V hr hX q G hf I nH hp xe D gU Dh cv oL bt bo ct r nT h3 cj nL gS kQ lX iF cD cL r0 r1 r2 r3 r4 r5 r6 r7 r8 r9 wI cW Q1 ad dk de du;obtain⟨w3,ck⟩ :=ν (w5.setCell ⟨g,6,none⟩ (.slice R (N+1) C));rw[ck]at H3⊢;clear ck;obtain⟨q0,q1, -⟩ :=H3.out.1.cells;have CF:g<w3.heap.size:=H3.out.1.cell.lt
  go_wp2_with fail;refine(Tc w3 Z.m Z.m ω).mono ?_;rintro e w4 ⟨gd,c1,M,S,rfl,hM,q,am,ap,al,E⟩;have bl:∀k,c1 k≠0->w3.heap.size<=k:=λk b=>(hM.cb k b).1
  have bi:∀k,k<w3.heap.size->c1 k=0:=λk b=>by
   by_cases e:c1 k=0
   · exact e
   have:=bl k e;omega
  have cr:=bi g CF;have h4:=H3.out.1.fz (F:=λ_=>False) (bj.bA q) (λk b=>b.elim) (λk b=> ⟨au H3.out.1.low (hM.cb k b).1,(hM.cb k b).2⟩) (λk b _=>bi k b);have z2:=h4.Rp (i:=2) ω;obtain⟨-, -,da, -⟩ :=h4.cells;have PG:bj w4 (w4.setCell ⟨g,2,none⟩ (.pointer (some ⟨gd,0,none⟩))) (λk=>k=g):=bj.setCell (S:=λk=>k=g) (bj.refl w4 _) (p:= ⟨g,2,none⟩) (.inl rfl) _;have h5:qZ (w4.setCell ⟨g,2,none⟩ (.pointer (some ⟨gd,0,none⟩))) b0 g c1 (λk=>XB k\/(0<m/\ai X=some k)) { Z with Ah:=R,nh:=N+1,ch:=C,p:=some ⟨gd,0,none⟩ } (H++[hv]) (hs++[l]):=h4.turn PG ((h4.cell.bC (i:=2) ω _).congr (Cp rfl rfl rfl rfl rfl rfl rfl rfl rfl)) (h4.a43 PG) ⟨rfl,rfl,rfl⟩ h4.sm;have xU:=hM.aside PG (λk b=>by rw[b];exact cr);have Z8:Hid (bj w3 (w4.setCell ⟨g,2,none⟩ (.pointer (some ⟨gd,0,none⟩))) (λk=>k=g)):=bj.setCell (S:=λk=>k=g) (bj.bA q) (p:= ⟨g,2,none⟩) (.inl rfl) _;clear h4 hM PG q;go_upto_region 8 with fail
  revert h5 xU Z8;generalize w4.setCell ⟨g,2,none⟩ (.pointer (some ⟨gd,0,none⟩))=w6;intro h5 xU Z8;obtain⟨-,bE,bB, -⟩ :=h5.cells;replace bE:w6.cell? ⟨g,1,none⟩ =some (.slice A n d):=by rw[bE,<-HZ.out.1,<-HZ.out.2.1,<-HZ.out.2.2.1]
  replace bB:w6.cell? ⟨g,2,none⟩ =some (.pointer (some ⟨gd,0,none⟩)):=bB
  have ac:ju .u8 w6 b0 5 A n d l:=by
   have h:ju .u8 w6 b0 5 Z.A Z.n Z.cp Z.l:=h5.own;rw[HZ.out.1,HZ.out.2.1,HZ.out.2.2.1,HZ.out.2.2.2.1]at h;exact h
  have hcut:=(ac.cut (j:=J) HJ.out.2.1).rd;rw[HJ.out.2.2.1,HJ.out.2.2.2.1]at hcut;have cq:bU .u8 w6.drew w6.heap.size A9 n9 (l.drop J):=hcut;have cs:bz w6 c1 w6.drew w3.heap.size gd M S:=xU.refl.drew;have co:=Pc cs w6.heap.size n9 d9 _ (l.drop J) cq (ag _) (λv hv=>HJ.out.2.2.2.2.2.2.1 v (aX hv)) (by rw[am,av];have:=HJ.out.2.2.2.2.2.2.2.1;simp;omega);have cB:=η co;have dz:=η xU.refl;have dy:=η (⟨am,ap,al,E⟩ :_/\_/\_/\_);have Et:=η (⟨bl,cr⟩ :_/\_);have oP:=Rl.out;clear co xU ac am ap al E da z2 cs cq hcut bl bi
  go_wp2_with fail
  go_region_law
   ((go_simp;go_at_call 34;(refine cB.out.mono ?_))
    rintro e U ⟨A5,n5,d5,rfl,c5,Lb,JS⟩;have h7:=h5.fz JS.2.1 (λk b=> ⟨λe=>b (by rw[e];exact h5.cg),λe=>b (h5.cA k e).2.1,λe=>b (h5.cH k e).2,λe=>b (h5.cX k e).2⟩) (λk b=> ⟨au H3.out.1.low (Lb.cb k b).1,(Lb.cb k b).2⟩) (λk b e=>by rw[JS.2.2 k b];exact e);have gS:=h7.cell)
  all_goals
   have z1:=gS.frozen' (i:=1) ω;have z4:=gS.frozen' (i:=4) ω;have z5:=gS.frozen' (i:=5) ω;obtain⟨-,ec, -, -,eb,ea, -⟩ :=h7.cells
   have bX:Hid (zx w b0 g (gX g c XB Z.A Z.Ah) T a (3*(f'+1)+2) (.returned (.int .i64 0)) (((U.setCell ⟨g,1,none⟩ (.slice none 0 0)).setCell ⟨g,4,none⟩ (.int .u32 0)).setCell ⟨g,5,none⟩ (.int .u32 0))):=by
    have r:bj U (((U.setCell ⟨g,1,none⟩ (.slice none 0 0)).setCell ⟨g,4,none⟩ (.int .u32 0)).setCell ⟨g,5,none⟩ (.int .u32 0)) (λk=>k=g):=bj.setCell (S:=λk=>k=g) (bj.setCell (S:=λk=>k=g) (bj.setCell (S:=λk=>k=g) (bj.refl U _) (p:= ⟨g,1,none⟩) (.inl rfl) _) (p:= ⟨g,4,none⟩) (.inl rfl) _) (p:= ⟨g,5,none⟩) (.inl rfl) _;have h8:qZ (((U.setCell ⟨g,1,none⟩ (.slice none 0 0)).setCell ⟨g,4,none⟩ (.int .u32 0)).setCell ⟨g,5,none⟩ (.int .u32 0)) b0 g c5 (λk=>XB k\/(0<m/\ai X=some k)) { Z with Ah:=R,nh:=N+1,ch:=C,p:=some ⟨gd,0,none⟩,A:=none,n:=0,cp:=0,l:=[],C9:=0,size:=0 } (H++[hv]) (hs++[l]):=h7.turn r ((((h7.cell.bC (i:=1) ω _).bC (i:=4) ω _).bC (i:=5) ω _).congr (Cp rfl rfl rfl rfl rfl rfl rfl rfl rfl)) ⟨ju.dK,λk b=>by simp [ai]at b,λv hv=>by simp at hv⟩ ⟨rfl,rfl,rfl⟩ ⟨⟨df 0,(by omega:(0:Int)<4294967296)⟩,df 0,(by omega:(0:Int)<4294967296)⟩;have hg:=dP.out;rw[HJ.out.1]at hg;obtain⟨am,ap,al,E⟩ :=dy.out;obtain⟨-, -, -, -, -, -,b1,b2,b3⟩ :=HB.out;refine hg _ c5 _ _ _ w3.heap.size gd _ S h8 rfl ω (Lb.aside r (λk b=>by rw[b];exact h7.cg)) (.inl ⟨start (gG (l.drop J)) Z.m, ⟨?_,E.st,E.last,E.left,E.c0,E.c1,E.c2,E.lens,E.hd,E.lt,E.ds,E.len,E.tail,E.rem,E.err⟩, .start (dJ.gG (l.drop J)) Z.m,rfl,by show []=[]++M.out;rw[al];rfl,by show Z.m<=_;omega⟩) (by show M.out.length<=_;rw[al];simp) ⟨rfl,rfl,rfl,b1,rfl,rfl,rfl,rfl,b2,b3⟩ ?_
    · show rb (M.B.drop (M.a/8)++l.drop J) (M.a%8)=gG (l.drop J);rw[am,ap];rfl
    refine H3.out.2.trans (Ext.of ((((Z8.out.more (S':=gX g c (λk=>XB k\/(0<m/\ai X=some k)) Z.A R) λk b=> .inl b).trans JS.2.1 λk b=> .inr (Et.out.1 k b)).trans r λk b=> .inl (.inl b))) (λk b=>(H3.out.1.Gf k b).1) H3.out.1.low λk b=> ?_);rcases b with b | b | b | b | b
    · exact .inl (.inl b)
    · simp [ai]at b
    · exact .inl (.inr (.inr (.inl b)))
    · exact .inl (.inr (.inr (.inr (.inl b))))
    exact .inr (Lb.cb k b).1
   clear gS h7 h5 Lb JS cB dz Z8
   go_wp2_with fail;go_ret;exact bX.out
theorem a2d {b:Nat} {w:World} (q:Nat):Below b w (w.drewN q):= ⟨rfl,rfl,rfl,ag _,λ_ _=>rfl⟩
theorem Pw (w:World) (b0 g:Nat) (c:Nat->Nat) (XB:Nat->Prop) (Z:GR) (H:List HV) (hs:List (List Int)) (r:qZ w b0 g c XB Z H hs) (T:GT) (a:List Int) (bI gd:Nat) (M:DM) (S:DS) (y:List Int) (m0 f:Nat) (a0 u:List Int) (hp:Z.p=some ⟨gd,0,none⟩) (Cc:g+1<=bI) (hM:jb w bI gd c M S)
  (hy:∀v∈y,0<=v/\v<256) (LJ:y.length<=f) (hf:hs.length+f<=1000001) (AO:m0<=1000000000) (hh:0<hs.length) (hT:T=(a0++((eU y m0).1.all++(gT f (eU y m0) m0).1),hs++(gT f (eU y m0) m0).2.1,(gT f (eU y m0) m0).2.2))
  (e1:Z.m+u.length=m0) (e2:a=a0++u) (e3:Z.C9=yU 0 u) (e4:Z.size=(u.length:Int)) (p1:Z.OT=true) (p3:(eU y m0).2=8) (p4:u=(eU y m0).1.all) (Y:Z.l=jO (eU y m0).1.x) (p6:Z.l.length<=f) (D:Z.en=true) (gU:Z.err=0) (hm:Z.m<=1000000000) (nH:Z.l.length<=1000000):
  Calls Tryz.prog 58 #[.pointer (some ⟨g,0,none⟩)] w (zx w b0 g (gX g c XB Z.A Z.Ah) T a (3*f+3)):=by
 obtain⟨i0,hi,aE,ad,ap⟩ :=aJ jl;have Hi:=η (⟨hi,ad⟩ :_/\_);obtain⟨-,k1,k2,k3,k4,k5, -⟩ :=r.cells;have I3:T.1=a0++((eU y m0).1.all++(gT f (eU y m0) m0).1)/\T.2.1=hs++(gT f (eU y m0) m0).2.1/\T.2.2=(gT f (eU y m0) m0).2.2:=by rw[hT];exact⟨rfl,rfl,rfl⟩
 have bad:Hid (∀v,ui Z.l u=v->v≠0->∀q,zx w b0 g (gX g c XB Z.A Z.Ah) T a (3*f+3) (.returned (.int .i64 v)) (w.drewN q)):=λv hv h0 q=>by
  obtain⟨V,U,R⟩ :=I3;rw[Hx p3 Y.symm p4.symm (by rw[hv];exact h0)]at V U R;refine⟨v,c,XB,Z,H,hs,3*f+3,rfl,r.keeps (a2d q), ?_,D,gU,hm,nH, ⟨a2d q,bj.drewN (bj.refl _ _) q,λk o=> .inl o⟩, .inr ⟨h0,by rw[V,e2,p4];simp,by rw[U];simp,by rw[R,hv]⟩⟩;exact Ep.keeps (.inr ⟨bI,gd,M,S,y,m0,f,a0,u,hp,Cc,hM,hy,LJ,hf,AO,hh,hT,e1,e2,e3,e4, .inr ⟨p1,rfl,p3,p4,Y,p6⟩⟩) (a2d q)
 have good:Hid (ui Z.l u=0->8<=Z.l.length->∀q,zx w b0 g (gX g c XB Z.A Z.Ah) T a (3*f+3) (.returned (.int .i64 0)) ((((w.drewN q).setCell ⟨g,1,none⟩ (.slice (dx Z.A Z.cp 8) (Z.n-8) (Z.cp-8))).setCell ⟨g,2,none⟩ (.pointer none)).setCell ⟨g,3,none⟩ (.bool false))):=λhv X q=>by
  obtain⟨V,U,R⟩ :=I3;rw[Nj p3 Y.symm p4.symm hv]at V U R
  have K:bj w ((((w.drewN q).setCell ⟨g,1,none⟩ (.slice (dx Z.A Z.cp 8) (Z.n-8) (Z.cp-8))).setCell ⟨g,2,none⟩ (.pointer none)).setCell ⟨g,3,none⟩ (.bool false)) (λk=>k=g):=
   (((bj.drewN (bj.refl w (λk=>k=g)) q).setCell (p:= ⟨g,1,none⟩) (.inl rfl) _).setCell (p:= ⟨g,2,none⟩) (.inl rfl) _).setCell (p:= ⟨g,3,none⟩) (.inl rfl) _
  have B:8<=Z.n:=by rw[r.own.1];exact X
  have L:=r.own.blk 8;have ab:=(r.own.cut B).fz K (λk o e=>(r.cA k (by rw[<-L];exact o)).1 e)
  refine⟨0,λ_=>0,XB,{ Z with A:=dx Z.A Z.cp 8,n:=Z.n-8,cp:=Z.cp-8,l:=Z.l.drop 8,p:=none,OT:=false },H,hs,3*f+2,rfl, ⟨?_,r.lo,ab,r.hdr.fz K (λk o e=>(r.cH k e).1 o) (λk o e=>(r.cX k e).1 o),λv hv=>r.jU v (aX hv),rfl,λk o=> ?_,λk o=> ⟨(r.cH k o).1,rfl⟩,λk o=> ⟨(r.cX k o).1,rfl⟩,λk o=>absurd rfl o,r.sm⟩,
   .inl ⟨rfl,rfl,λ_=>rfl,f,by show(Z.l.drop 8).length<f;rw[av];omega,ω,rfl, ?_⟩,D,gU,hm,by show(Z.l.drop 8).length<=_;rw[av];omega,Ext.of (K.more λk o=> .inl o) (λk o=>(r.Gf k o).1) r.low (λk o=> ?_), .inl ⟨rfl,ω⟩⟩
  · exact(((r.cell.drewN q).bC (i:=1) ω _).bC (i:=2) ω _ |>.bC (i:=3) ω _).congr (Cp rfl rfl rfl rfl rfl rfl rfl rfl rfl)
  · have h9:=r.cA k (by rw[<-L];exact o);exact⟨h9.1,rfl,h9.2.2⟩
  · have hd:decide (0<hs.length)=true:=aS hh;rw[hd];show T=(a++(gz f (Z.l.drop 8) Z.m true).1,hs++(gz f (Z.l.drop 8) Z.m true).2.1,(gz f (Z.l.drop 8) Z.m true).2.2);rw[show m0-u.length=Z.m by omega]at V U R;rw[e2,ak,p4,<-V,<-U,<-R]
  rcases o with o | o | o | o | o
  · exact .inl (.inl o)
  · exact .inl (.inr (.inl (by rw[<-L];exact o)))
  · exact .inl (.inr (.inr (.inl o)))
  · exact .inl (.inr (.inr (.inr (.inl o))))
  exact absurd rfl o
 obtain⟨GE,N⟩ :=ν (gX g c XB Z.A Z.Ah);rw[N]at bad good⊢;have G:=r.own;have E:=r.jU;have ac:u.length<=1000000000:=ω;have H1:=η r;obtain⟨A,hA⟩ :=ν (Z.A);obtain⟨n,hn⟩ :=ν (Z.n);obtain⟨d,hd⟩ :=ν (Z.cp);obtain⟨l,hl⟩ :=ν (Z.l);obtain⟨s,hs_⟩ :=ν (Z.C9);rw[hA,hn,hd,hl]at G;rw[hA,hn,hd]at k1 good;have ah:l.length<8\/8<=l.length:=ω;rw[hl]at bad good E nH;rw[hp]at k2;rw[p1]at k3;rw[hs_]at k4 e3;rw[e4]at k5;have fX:=G.1;have eL:=G.jD;rcases ah with X | X
 · have bX:=η (bad.out 5 (by unfold ui;rw[ae X]) δ 0);have xj:(n:Int)<8:=ω;clear e1 e2 e3 e4 p1 p3 p4 Y p6 hp Cc hM hy LJ hf AO hh hT D gU hm nH eL ac hA hn hd hl hs_ fX N;clear bad good r G I3;go_enter Tryz.func58,Tryz.ntmps58
   go_wp2_with fail;go_ret;exact bX.out
 have B:8<=n:=ω;have xj:¬(n:Int)<8/\(n:Int)<=1000000:=ω;have ao:8<=d:=au B eL;have kG:∀W,(Instr.slice 22 (.slice A n d) none (some (.int .i64 4)) none).run Tryz.prog W= .ok (.slice A 4 d) W:=λW=>dV (P:=Tryz.prog) 22 5 Tryz.underlying22 Hi.out.1 Hi.out.2 A n d (j:=4) ω W;have am:∀W,(Instr.slice 22 (.slice A n d) (some (.int .i64 4)) (some (.int .i64 8)) none).run Tryz.prog W= .ok (.slice (dx A d 4) 4 (d-4)) W:=λW=>fR (P:=Tryz.prog) 22 5 Tryz.underlying22 Hi.out.1 Hi.out.2 A n d (a:=4) (b:=8) ω ω W;have al:∀W,(Instr.slice 22 (.slice A n d) (some (.int .i64 8)) none none).run Tryz.prog W= .ok (.slice (dx A d 8) (n-8) (d-8)) W:=λW=>dc (P:=Tryz.prog) 22 5 Tryz.underlying22 Hi.out.1 Hi.out.2 A n d (j:=8) ω W;obtain⟨A4,Cb⟩ :=ν (dx A d 4);obtain⟨d4,Am⟩ :=ν (d-4);obtain⟨A8,hA8⟩ :=ν (dx A d 8);obtain⟨n8,I⟩ :=ν (n-8);obtain⟨d8,J⟩ :=ν (d-8);have RN:bU .u8 w w.heap.size A 4 (l.take 4):=G.rd.pre ω
 have UR:bU .u8 w w.heap.size A4 4 ((l.drop 4).take 4):=by
  have h9:=(G.rd.dx (j:=4) ω eL).pre (j:=4) ω;rw[Cb]at h9;exact h9
 rw[Cb,Am]at am;rw[hA8,I,J]at al;rw[hA8,I,J]at good
 have hg:ui l u=if mM (l.take 4)≠s\/mM ((l.drop 4).take 4)≠(u.length:Int)then 4 else 0:=by
  unfold ui;rw[aa ω,show(u.length:Int)%4294967296=(u.length:Int) by omega,e3]
 obtain⟨Q,oQ⟩ :=ν (mM (l.take 4));obtain⟨O,F⟩ :=ν (mM ((l.drop 4).take 4));obtain⟨z,hz⟩ :=ν ((u.length:Int):Int);rw[oQ,F,hz]at hg;rw[hz]at k5
 have HN:=η (λ(A':Option Addr) (d':Nat) (v':Int) (W:World) (h:(A'=A/\d'=d/\v'=Q)\/(A'=A4/\d'=d4/\v'=O)) (hW:∀(C:Option Addr) (t:List Int),bU .u8 w w.heap.size C 4 t->bU .u8 W w.heap.size C 4 t)=>
  show Calls Tryz.prog 78 #[.slice A' 4 d'] W (λe w'=>e= .returned (.int .u32 v')/\∃q,w'=W.drewN q) from by
   rcases h with ⟨rfl,rfl,rfl⟩ | ⟨rfl,rfl,rfl⟩
   · rw[<-oQ];exact mR W w.heap.size 4 _ _ (l.take 4) (hW _ _ RN) ω (λv hv=>E v (aH hv))
   rw[<-F];exact mR W w.heap.size 4 _ _ ((l.drop 4).take 4) (hW _ _ UR) ω (λv hv=>E v (aX (aH hv))))
 have z1:=H1.out.Rp (i:=1) ω;have z2:=H1.out.Rp (i:=2) ω;have z3:=H1.out.Rp (i:=3) ω;have an:∀q,(w.drewN q).cell? ⟨g,4,none⟩ =some (.int .u32 s):=λq=>k4;have Ia:Hid (Q≠s\/O≠z->∀q,zx w b0 g GE T a (3*f+3) (.returned (.int .i64 4)) (w.drewN q)):=λh=>bad.out 4 (by rw[hg,ae h]) δ;have kC:Hid (Q=s->O=z->∀q,zx w b0 g GE T a (3*f+3) (.returned (.int .i64 0)) ((((w.drewN q).setCell ⟨g,1,none⟩ (.slice A8 n8 d8)).setCell ⟨g,2,none⟩ (.pointer none)).setCell ⟨g,3,none⟩ (.bool false))):=λc1 c2=>good.out (by rw[hg,aa (by rintro(h | h);exact h c1;exact h c2)]) X;have be:(8:Int)<=(n:Int):=ω;clear e1 e2 e3 e4 p1 p3 p4 Y p6 hp Cc hM hy LJ hf AO hh hT D gU hm nH eL ac hA hn hd hl hs_ N;clear bad good r G fX I3 hg oQ F hz Cb Am hA8 I J RN UR E X B ao an;by_cases c1:Q=s
 rotate_left
 · have hf:=η (Ia.out (.inl c1));have bp:(Q==s)=false:=by simpa using c1
   have bo:(Q != s)=true:=by simpa using c1
   clear kC Ia c1;go_enter Tryz.func58,Tryz.ntmps58
   go_wp2_with fail;go_quiet ((go_at_call 78;exact dI (HN.out _ _ _ _ (by first | exact .inl ⟨rfl,rfl,rfl⟩ | exact .inr ⟨rfl,rfl,rfl⟩) (by exact λ_ _ h=>h))))
   go_wp2_with fail;go_ret;exact hf.out _
 by_cases c2:O=z
 · have hf:=η (kC.out c1 c2);clear kC Ia;subst c1 c2;go_enter Tryz.func58,Tryz.ntmps58
   go_wp2_with fail;go_quiet ((go_at_call 78;exact dI (HN.out _ _ _ _ (by first | exact .inl ⟨rfl,rfl,rfl⟩ | exact .inr ⟨rfl,rfl,rfl⟩) (by exact λ_ _ h=>h))))
   go_wp2_with fail;go_ret;exact hf.out _
 have hf:=η (Ia.out (.inr c2));have bl:(O==z)=false:=by simpa using c2
 have bi:(O != z)=true:=by simpa using c2
 clear kC Ia c2;subst c1;go_enter Tryz.func58,Tryz.ntmps58
 go_wp2_with fail;go_quiet ((go_at_call 78;exact dI (HN.out _ _ _ _ (by first | exact .inl ⟨rfl,rfl,rfl⟩ | exact .inr ⟨rfl,rfl,rfl⟩) (by exact λ_ _ h=>h))))
 go_wp2_with fail;go_ret;exact hf.out _
theorem zx.Mz {w w':World} {b0 g:Nat} {E:Nat->Prop} {T:GT} {a:List Int} {rk n:Nat} {e:Ending} (h:zx w b0 g E T a rk e w'):∃r,e= .returned (.int .i64 r)/\S7 w b0 g E T a rk n (.returned (.tuple #[.slice none 0 0, .int .i64 r])) w':=by
 obtain⟨r,c,XB,Z,H,hs,b,k,j,i,f,h4,h5,h6,h7,d⟩ :=h;refine⟨r,k,none,0,0,[],r,c,XB,Z,H,hs,b,rfl, ⟨rfl,Rd.dK⟩,aF _,j,by rw[ax];exact i,f,h4,h5,h6,h7, ?_⟩;rcases d with ⟨h,h'⟩ | ⟨h,h'⟩
 · exact .inl ⟨h, .inl h'⟩
 exact .inr ⟨h,rfl,h'⟩
theorem Px (w:World) (b0 g:Nat) (c:Nat->Nat) (XB:Nat->Prop) (Z:GR) (H:List HV) (hs:List (List Int)) (T:GT) (a:List Int) (rk:Nat) (h:qZ w b0 g c XB Z H hs) (Y:Ep w (g+1) c T a hs rk Z) (b:Z.en=true) (i:Z.err=0) (q:Z.m<=1000000000) (p:Z.l.length<=1000000) (n:Nat) (z:0<n) (x:n<=1000000000):
  Calls Tryz.prog 35 #[.pointer (some ⟨g,0,none⟩), .int .i64 n] w (S7 w b0 g (gX g c XB Z.A Z.Ah) T a rk n):=by
 obtain⟨-, -,J,P, -⟩ :=h.cells;rcases Y with ⟨hp,q2,q3,f,q4,j,q5,q6⟩ | ⟨R,gd,M,S,y,m0,f,V,U,hp,Q,E,v,u,hf,B,C,D,I,K,G,F, ⟨p1,p2,p3,p4,o,k,O,N⟩ | ⟨p1,p2,p3,p4,o,k⟩⟩
 · subst q5;have t:=η (L3 w b0 g c XB Z H hs T a f h hp q2 q3 q4 j q6 b i q p);rw[hp]at J;clear h b i q p q2 q3 q4 j q6 hp z x;go_enter Tryz.func35,Tryz.ntmps35
   go_wp2_with fail;refine t.out.mono ?_;intro e L d;obtain⟨r,rfl,s⟩ :=d.Mz (n:=n);have hf:=η s;clear d s
   go_wp2_with fail;go_returns;exact hf.out
 · subst p2 K;have t:=η (L4 w b0 g c XB Z H hs h T R gd M S y m0 f V U hp Q E v u hf B C D I G F p1 p3 p4 o k O N b i n z x);rw[hp]at J;rw[p1]at P;clear h b i q p E v u hf B C D I G F p1 p3 p4 o k O N hp z x;go_enter Tryz.func35,Tryz.ntmps35
   go_wp2_with fail;refine t.out.mono ?_;intro e L d;have hf:=η d;obtain⟨A5,k5,d5,l5,r,c5,Ro,Z5,H5,X,W,rfl, -⟩ :=d
   go_wp2_with fail;go_returns;exact hf.out
 subst p2;have t:=η (Pw w b0 g c XB Z H hs h T a R gd M S y m0 f V U hp Q E v u hf B C D I K G F p1 p3 p4 o k b i q p);rw[hp]at J;rw[p1]at P;clear h b i q p E v u hf B C D I K G F p1 p3 p4 o k hp z x;go_enter Tryz.func35,Tryz.ntmps35
 go_wp2_with fail;refine t.out.mono ?_;intro e L d;obtain⟨r,rfl,s⟩ :=d.Mz (n:=n);have hf:=η s;clear d s
 go_wp2_with fail;go_returns;exact hf.out
end Go.Proofs.YtdhmnlpfhfmpfaaGreat
