/-
  part
-/
import Derived.Test.YtgiimmkmjpbecaaGreatPk26
import Derived.Test.YtgiimmkmjpbecaaGreatPk29
namespace Go.Proofs.YtgiimmkmjpbecaaGreat
open Go.RowKit
set_option linter.unusedVariables false
set_option maxRecDepth 100000
set_option maxHeartbeats 4000000
def zK (s:Int) (l:ag):Int:=nL (pD (nL s) l l.length)
theorem Dl {s:Int} (h:0<=s/\s<4294967296):nL (nL s)=s:=by
 unfold nL qU;rw[aY,<-Nat.xor_assoc,Nat.xor_self,Nat.zero_xor];omega
theorem yR {l:ag} (h:∀v∈l,0<=v/\v<256) (i:Nat):0<=ix l i/\ix l i<256:=tq h i
theorem LA {s:Int} (h:0<=s/\s<4294967296) {l:ag} (a:∀v∈l,0<=v/\v<256):0<=zK s l/\zK s l<4294967296:=vh (Ov (vh h) (yR a) _)
theorem Ou {s:Int} (h:0<=s/\s<4294967296) {a b:ag} (c:∀v∈a,0<=v/\v<256):zK (zK s a) b=zK s (a++b):=by
 unfold zK;rw[Dl (Ov (vh h) (yR c) _),ae,Ih]
theorem Zq {a b:ag} (e:∀x∈a,0<=x/\x<256) (d:∀x∈b,0<=x/\x<256):∀x∈a++b,0<=x/\x<256:=λx c=>(aQ.1 c).elim (e x) (d x)
theorem Zd {s:Int} (h:0<=s/\s<4294967296):zK s []=s:=Dl h
def eL (x:ag) (m:Nat):IS×Int:=(start (dT x) m).fin
def wA (R o:ag):Int:=if R.length<8 then 5 else if rK (R.take 4)≠zK 0 o\/rK ((R.drop 4).take 4)≠(o.length:Int)%4294967296 then 4 else 0
def Zp (r:ag->Nat->Bool->ag×List (ag)×Int) (F:IS×Int) (m:Nat):ag×List (ag)×Int:=
 if F.2≠8 then([],[],F.2)else if wA (gU F.1.x) F.1.all≠0 then([],[],wA (gU F.1.x) F.1.all)else r ((gU F.1.x).drop 8) (m-F.1.all.length) true
def a7l (x:ag) (F:IS×Int) (t:ag×List (ag)×Int):ag×List (ag)×Int:=(F.1.all++t.1,x::t.2.1,t.2.2)
def gz:Nat->ag->Nat->Bool->ag×List (ag)×Int
 | 0,_,_,_=>([],[],5)
 | f+1,x,m,k=>
   if x=[]/\k=true then([],[],8)else if wH x≠0 then([],[],wH x)else a7l x (eL (x.drop (Cz x)) m) (Zp (gz f) (eL (x.drop (Cz x)) m) m)
def gT (f:Nat) (F:IS×Int) (m:Nat):ag×List (ag)×Int:=Zp (gz f) F m
theorem Ma (f m:Nat):gz (f+1) [] m true=([],[],8):=by rw[gz];exact aa ⟨rfl,rfl⟩
theorem OI {f m:Nat} {x:ag} {k:Bool} (h:¬(x=[]/\k=true)) (a:wH x=0):gz (f+1) x m k=((eL (x.drop (Cz x)) m).1.all++(gT f (eL (x.drop (Cz x)) m) m).1,x::(gT f (eL (x.drop (Cz x)) m) m).2.1,(gT f (eL (x.drop (Cz x)) m) m).2.2):=by
 rw[gz,a8 h,a8 (λe=>e a)];generalize eL (x.drop (Cz x)) m=F;rfl
theorem LW {f m:Nat} {F:IS×Int} (h:F.2≠8):gT f F m=([],[],F.2):=aa h
theorem a4t {f m:Nat} {F:IS×Int} (h:F.2=8) {R:ag} (b:gU F.1.x=R) {o:ag} (a:F.1.all=o) (c:wA R o≠0):gT f F m=([],[],wA R o):=by subst b a;unfold gT Zp;rw[a8 (λe=>e h)];exact aa c
theorem Up {f m:Nat} {F:IS×Int} (h:F.2=8) {R:ag} (b:gU F.1.x=R) {o:ag} (a:F.1.all=o) (c:wA R o=0):gT f F m=gz f (R.drop 8) (m-o.length) true:=by subst b a;unfold gT Zp;rw[a8 (λe=>e h)];exact a8 (λe=>e c)
theorem a0L:wH []=5:=a0G (k:=0) δ (λi hi=>ω) δ
theorem pg {l:ag} {a:Nat} (e:Int) (m:Nat) (h:a<=l.length):wI l a e m<=l.length:=by
 unfold wI;split
 · rename_i b;have:=(XG b).2;omega
 exact h
theorem XO {l:ag} {a:Nat} (e:Int) (h:a<=l.length):txA l a e<=l.length:=by
 unfold txA;split
 · have:=a14 (l.drop a);rw[ay]at this;omega
 exact h
theorem Oe (x:ag):Cz x<=x.length:=by
 have h7:b7 x<=x.length:=pg _ _ (pg _ _ (pg _ _ (pg _ _ (pg _ _ (pg _ _ (pg _ _ (aG _)))))))
 have c:b9 x<=x.length:=by
  unfold b9;split
  · exact pg _ _ (pg _ _ h7)
  exact h7
 have b:Y9 x<=x.length:=by
  unfold Y9;split
  · exact XO _ c
  exact c
 have a:PZ x<=x.length:=by
  unfold PZ;split
  · exact XO _ b
  exact b
 unfold Cz;split
 · exact pg _ _ a
 exact a
theorem ui (x:ag) (m:Nat):∀v∈(eL x m).1.all,0<=v/\v<256:=IS.DC (.start (dH.dT _) m)
theorem IG (x:ag) (m:Nat):(eL x m).1.all.length<=m:=by
 obtain⟨b,d,c⟩ :=IS.Fj (start (dT x) m);have a:(start (dT x) m).fin.1.all=[]++b:=d;have h4:(start (dT x) m).fin.1.rem+b.length=m:=c;show(start (dT x) m).fin.1.all.length<=m;rw[a,ba];omega
theorem QD {x:ag} {m:Nat} (d:(eL x m).2=8) (b:∀v∈x,0<=v/\v<256):∃j,j<=x.length/\gU (eL x m).1.x=x.drop j/\dT (x.drop j)=(eL x m).1.x:=by
 obtain⟨f,a⟩ :=zW d;obtain⟨j,c⟩ :=ν (x.length-(start (dT x) m).fin.1.x.length/8);rw[c]at a;refine⟨j,ω, ?_,a⟩;have e:=lC (B:=x.drop j) (λv hv=>b v (aW hv));rw[a]at e;exact e
def xS (o:ag):ag:=tW 4 (zK 0 o)++tW 4 ((o.length:Int)%4294967296)
def KI (h:HP) (B o:ag):ag:=h.p4++(gU B++xS o)
theorem sX (o:ag):(xS o).length=8:=by unfold xS;rw[ae,jW,jW]
theorem M7 (o:ag):∀v∈xS o,0<=v/\v<256:=zB (Wd _ _) (Wd _ _)
theorem II {o:ag} (b:∀v∈o,0<=v/\v<256) (y:ag):wA (xS o++y) o=0:=by
 have a:=LA (s:=0) ω b;have d:(xS o++y).take 4=tW 4 (zK 0 o):=by unfold xS;rw[av,List.take_left' (jW _ _)]
 have c:((xS o++y).drop 4).take 4=tW 4 ((o.length:Int)%4294967296):=by unfold xS;rw[av,List.drop_left' (jW _ _),List.take_left' (jW _ _)]
 unfold wA;rw[a8 (by rw[ae,sX];omega),d,c,Pd 4 a.1 (by have:=a.2;show _<(4294967296:Int);omega),Pd 4 ω (by show _<(4294967296:Int);omega),a8 σ]
theorem sW {B o:ag} (h:pA B o) (T:ag) {m:Nat} (c:o.length<=m):∃t,eL (gU B++T) m=(t,8)/\t.all=o/\t.x=dT T:=by
 obtain⟨t,e,d,a⟩ :=h.fin;obtain⟨b,i,g,f⟩ :=IA (y:=dT T) e (by rw[a];exact c) (by rw[dQ];omega);refine⟨b, ?_,by rw[g,a],by rw[f,d,ba]⟩;unfold eL;rw[qh,zT h.ev h.bit];exact i
section
variable {H B o T:ag} {f m:Nat} {k:Bool}
theorem Uy (q:wH (H++(gU B++T))=0) (p:Cz (H++(gU B++T))=H.length) (a:0<H.length) (hz:pA B o) (g:o.length<=m) (h:∀v∈T,0<=v/\v<256):
  gz (f+1) (H++(gU B++T)) m k=(o++(if wA T o≠0 then([],[],wA T o)else gz f (T.drop 8) (m-o.length) true).1,(H++(gU B++T))::(if wA T o≠0 then([],[],wA T o)else gz f (T.drop 8) (m-o.length) true).2.1,(if wA T o≠0 then([],[],wA T o)else gz f (T.drop 8) (m-o.length) true).2.2):=by
 obtain⟨t,j,b,i⟩ :=sW hz T g
 have d:¬(H++(gU B++T)=[]/\k=true):=λe=>by
  have:=bf List.length e.1;simp only [List.length_append,List.length_nil]at this;omega
 have n:(H++(gU B++T)).drop (Cz (H++(gU B++T)))=gU B++T:=by rw[p,List.drop_left' rfl]
 have l:gT f (t,8) m=if wA T o≠0 then([],[],wA T o)else gz f (T.drop 8) (m-o.length) true:=by
  have c:gU (t,(8:Int)).1.x=T:=by show gU t.x=T;rw[i,lC h]
  split
  · rename_i a;exact a4t rfl c b a
  rename_i a;exact Up rfl c b (by simpa using a)
 rw[OI d q,n,j,l];show(t.all++_,_,_)=_;rw[b]
end
structure ES (w:World) (b0:Nat) (XB:Nat->Prop) (A:ax) (n c:Nat) (H:List HV) (hs:List (ag)):Prop where
 own:Own w b0 48 11 A n c (AB H)
 n_:n=H.length
 len:H.length=hs.length
 ex:∀i,i<hs.length->∃X m cc,H.getD i hz=Ga (hs.getD i []) (.slice X m cc)/\m<=cc/\cc<=maxLen/\bT .u8 w w.heap.size X m (exL (hs.getD i []))/\∀ad,X=some ad->0<m->XB ad.block
 xb:∀k,XB k->b0<=k/\k<w.heap.size/\ai A≠some k
structure GR where
 m:Nat
 A:ax
 n:Nat
 cp:Nat
 l:ag
 p:ax
 sS:Bool
 Cf:Int
 size:Int
 Ah:ax
 nh:Nat
 ch:Nat
 en:Bool
 err:Int
def gcF (Z:GR):Nat->Value
 | 0=> .int .i64 Z.m
 | 1=> .slice Z.A Z.n Z.cp
 | 2=> .pointer Z.p
 | 3=> .bool Z.sS
 | 4=> .int .u32 Z.Cf
 | 5=> .int .u32 Z.size
 | 6=> .slice Z.Ah Z.nh Z.ch
 | 7=> .bool Z.en
 | _=> .int .i64 Z.err
theorem Cy {P:Nat->Prop} (f:P 0) (e:P 1) (d:P 2) (c:P 3) (h4:P 4) (h5:P 5) (h6:P 6) (h7:P 7) (b:P 8):∀j,j<9->P j:=λj a=>by
 obtain rfl | rfl | rfl | rfl | rfl | rfl | rfl | rfl | rfl:j=0\/j=1\/j=2\/j=3\/j=4\/j=5\/j=6\/j=7\/j=8:=ω;all_goals assumption
def gX (g:Nat) (c:Nat->Nat) (XB:Nat->Prop) (A Ah:ax):Nat->Prop:=λk=>k=g\/ai A=some k\/ai Ah=some k\/XB k\/c k≠0
structure qW (w:World) (b0 g:Nat) (c:Nat->Nat) (XB:Nat->Prop) (Z:GR) (H:List HV) (hs:List (ag)):Prop where
 cell:Ar w g 9 (gcF Z)
 lo:b0<=g
 own:fK .u8 w b0 5 Z.A Z.n Z.cp Z.l
 hdr:ES w b0 XB Z.Ah Z.nh Z.ch H hs
 jc:∀v∈Z.l,0<=v/\v<256
 cg:c g=0
 cA:∀k,ai Z.A=some k->k≠g/\c k=0/\ai Z.Ah≠some k/\¬XB k
 cH:∀k,ai Z.Ah=some k->k≠g/\c k=0
 cX:∀k,XB k->k≠g/\c k=0
 cb:∀k,c k≠0->b0<=k/\k<w.heap.size
 sm:(0<=Z.Cf/\Z.Cf<4294967296)/\0<=Z.size/\Z.size<4294967296
abbrev GT:=ag×List (ag)×Int
def One (y:ag) (m:Nat):Prop:=(eL y m).2=8->wA (gU (eL y m).1.x) (eL y m).1.all=0/\(gU (eL y m).1.x).drop 8=[]
def YU (n:Nat) (l:ag):Prop:=(l=[]/\0<n)\/∃r,l=[31,139,8,0,0,0,0,0,0,0]++r/\∀m,One r m
def GS (w:World) (b0:Nat) (c:Nat->Nat) (T:GT) (a:ag) (hs:List (ag)) (rk:Nat) (Z:GR):Prop:=
 (Z.p=none/\Z.sS=false/\(∀k,c k=0)/\∃f,Z.l.length<f/\(hs.length+f<=1000001/\YU hs.length Z.l)/\rk=3*f+2/\T=(a++(gz f Z.l Z.m (decide (0<hs.length))).1,hs++(gz f Z.l Z.m (decide (0<hs.length))).2.1,(gz f Z.l Z.m (decide (0<hs.length))).2.2))\/
 (∃d gd M S y m0 f e b,Z.p=some ⟨gd,0,none⟩/\b0<=d/\iy w d gd c M S/\(∀v∈y,0<=v/\v<256)/\y.length<=f/\hs.length+f<=1000001/\m0<=1000000000/\(0<hs.length/\One y m0)/\T=(e++((eL y m0).1.all++(gT f (eL y m0) m0).1),hs++(gT f (eL y m0) m0).2.1,(gT f (eL y m0) m0).2.2)/\
   Z.m+b.length=m0/\a=e++b/\Z.Cf=zK 0 b/\Z.size=(b.length:Int)/\
   ((Z.sS=false/\rk=3*f+4/\Z.A=none/\Z.n=0/\Z.cp=0/\Z.l=[]/\ZIn (eL y m0) (b++M.out) M S/\M.out.length<=70000)\/
    (Z.sS=true/\rk=3*f+3/\(eL y m0).2=8/\b=(eL y m0).1.all/\Z.l=gU (eL y m0).1.x/\Z.l.length<=f)))
section
variable {w w' w'':World} {b0 g:Nat} {c c':Nat->Nat} {XB:Nat->Prop} {Z Z':GR} {H:List HV} {hs:List (ag)} {a:ag} {T:GT} {rk:Nat} {E E':Nat->Prop}
theorem ES.dx {A:ax} {n cp:Nat} {F:Nat->Prop} (h:ES w b0 XB A n cp H hs) (b:bb w w' F) (hA:∀k,F k->ai A≠some k) (d:∀k,F k->¬XB k):ES w' b0 XB A n cp H hs:=
 ⟨b.own h.own (λk a e=>hA k e a),h.n_,h.len,λi hi=>by
   obtain⟨X,m,cc,o,l,j,g,c⟩ :=h.ex i hi;exact⟨X,m,cc,o,l,j,(b.rp g (af _) (λf p e hF=>d _ hF (c p e f))).more b.size,c⟩,λk a=> ⟨(h.xb k a).1,aB (h.xb k a).2.1 b.size,(h.xb k a).2.2⟩⟩
theorem qW.qb (h:qW w b0 g c XB Z H hs):∀k,gX g c XB Z.A Z.Ah k->b0<=k/\k<w.heap.size:=λk a=>by
 rcases a with rfl | a | a | a | a
 · exact⟨h.lo,h.cell.lt⟩
 · exact h.own.lt a
 · exact h.hdr.own.lt a
 · exact⟨(h.hdr.xb k a).1,(h.hdr.xb k a).2.1⟩
 exact h.cb k a
theorem qW.low (h:qW w b0 g c XB Z H hs):b0<=w.heap.size:=aq h.lo (bE h.cell.lt)
theorem qW.cells (h:qW w b0 g c XB Z H hs):w.cell? ⟨g,0,none⟩ =some (.int .i64 Z.m)/\w.cell? ⟨g,1,none⟩ =some (.slice Z.A Z.n Z.cp)/\w.cell? ⟨g,2,none⟩ =some (.pointer Z.p)/\w.cell? ⟨g,3,none⟩ =some (.bool Z.sS)/\w.cell? ⟨g,4,none⟩ =some (.int .u32 Z.Cf)/\
  w.cell? ⟨g,5,none⟩ =some (.int .u32 Z.size)/\w.cell? ⟨g,6,none⟩ =some (.slice Z.Ah Z.nh Z.ch)/\w.cell? ⟨g,7,none⟩ =some (.bool Z.en)/\w.cell? ⟨g,8,none⟩ =some (.int .i64 Z.err):=
 ⟨h.cell.cell ω,h.cell.cell ω,h.cell.cell ω,h.cell.cell ω,h.cell.cell ω,h.cell.cell ω,h.cell.cell ω,h.cell.cell ω,h.cell.cell ω⟩
theorem qW.Ae (h:qW w b0 g c XB Z H hs) {i:Nat} (hi:i<9):w.frozen? ⟨g,i,none⟩ =false:=h.cell.frozen' hi
theorem qW.turn (h:qW w b0 g c XB Z H hs) (f:bb w w' (λk=>k=g)) (j:Ar w' g 9 (gcF Z')) (hA:fK .u8 w' b0 5 Z'.A Z'.n Z'.cp Z'.l/\(∀k,ai Z'.A=some k->ai Z.A=some k)/\(∀v∈Z'.l,0<=v/\v<256)) (i:Z'.Ah=Z.Ah/\Z'.nh=Z.nh/\Z'.ch=Z.ch) (b:(0<=Z'.Cf/\Z'.Cf<4294967296)/\0<=Z'.size/\Z'.size<4294967296):qW w' b0 g c XB Z' H hs:=by
 obtain⟨p,o,m⟩ :=hA;obtain⟨d,r,q⟩ :=i;exact⟨j,h.lo,p,by rw[d,r,q];exact h.hdr.dx f (λk a e=>(h.cH k e).1 a) (λk a e=>(h.cX k e).1 a),m,h.cg,λk a=>by rw[d];exact h.cA k (o k a),λk a=>h.cH k (by rw[<-d];exact a),h.cX,λk a=> ⟨(h.cb k a).1,aB (h.cb k a).2 f.size⟩,b⟩
theorem qW.a3D (h:qW w b0 g c XB Z H hs) (b:bb w w' (λk=>k=g)):fK .u8 w' b0 5 Z.A Z.n Z.cp Z.l/\(∀k,ai Z.A=some k->ai Z.A=some k)/\(∀v∈Z.l,0<=v/\v<256):= ⟨h.own.dx b (λk a e=>(h.cA k a).1 e),λk a=>a,h.jc⟩
theorem qW.dx {F:Nat->Prop} (h:qW w b0 g c XB Z H hs) (f:bb w w' F) (hF:∀k,F k->k≠g/\ai Z.A≠some k/\ai Z.Ah≠some k/\¬XB k) (d:∀k,c' k≠0->b0<=k/\k<w'.heap.size) (b:∀k,k<w.heap.size->c k=0->c' k=0):qW w' b0 g c' XB Z H hs:=
 ⟨f.ar h.cell (λe=>(hF g e).1 rfl),h.lo,h.own.dx f (λk a e=>(hF k e).2.1 a),h.hdr.dx f (λk a=>(hF k a).2.2.1) (λk a=>(hF k a).2.2.2),h.jc,b g h.cell.lt h.cg,λk a=> ⟨(h.cA k a).1,b k (h.own.lt a).2 (h.cA k a).2.1,(h.cA k a).2.2⟩,λk a=> ⟨(h.cH k a).1,b k (h.hdr.own.lt a).2 (h.cH k a).2⟩,λk a=> ⟨(h.cX k a).1,b k (h.hdr.xb k a).2.1 (h.cX k a).2⟩,d,h.sm⟩
theorem qW.keeps (h:qW w b0 g c XB Z H hs) (b:Below w.heap.size w w'):qW w' b0 g c XB Z H hs:=
 h.dx (bb.bC (S:=λ_=>False) b) (λk a=>a.elim) (λk a=> ⟨(h.cb k a).1,aB (h.cb k a).2 b.size⟩) (λ_ _ e=>e)
theorem GS.keeps (h:GS w b0 c T a hs rk Z) (b:Below w.heap.size w w'):GS w' b0 c T a hs rk Z:=by
 rcases h with h | ⟨i,gd,M,S,y,m0,f,k,j,g,e,d,h4⟩
 · exact .inl h
 exact .inr ⟨i,gd,M,S,y,m0,f,k,j,g,e,d.keeps b,h4⟩
theorem GS.aside {F:Nat->Prop} (h:GS w b0 c T a hs rk Z) (b:bb w w' F) (hF:∀k,F k->c k=0) (d:Z'.m=Z.m/\Z'.A=Z.A/\Z'.n=Z.n/\Z'.cp=Z.cp/\Z'.l=Z.l/\Z'.p=Z.p/\Z'.sS=Z.sS/\Z'.Cf=Z.Cf/\Z'.size=Z.size):GS w' b0 c T a hs rk Z':=by
 obtain⟨x,v,u,t,s,r,q,o,j⟩ :=d;unfold GS at h⊢;rw[x,v,u,t,s,r,q,o,j];rcases h with h | ⟨z,gd,M,S,y,m0,f,C,B,i,g,e,h4⟩
 · exact .inl h
 exact .inr ⟨z,gd,M,S,y,m0,f,C,B,i,g,e.aside b hF,h4⟩
end
def Tk (w:World) (b0 g:Nat) (E:Nat->Prop) (T:GT) (a:ag) (rk n:Nat) (e:Ending) (w':World):Prop:=
 ∃A k cp l r c XB Z H hs b,e= .returned (.tuple #[.slice A k cp, .int .i64 r])/\bT .u8 w' w'.heap.size A k l/\l.length<=n/\qW w' b0 g c XB Z H hs/\GS w' (g+1) c T (a++l) hs b Z/\Z.en=true/\Z.err=0/\Z.m<=1000000000/\Z.l.length<=1000000/\Ext b0 w w' E (gX g c XB Z.A Z.Ah)/\
  ((r=0/\(b<rk\/(b=rk/\0<l.length)))\/(r≠0/\l=[]/\a=T.1/\hs=T.2.1/\r=T.2.2))
def EI (w:World) (b0 g:Nat) (E:Nat->Prop) (T:GT) (a:ag) (rk:Nat) (e:Ending) (w':World):Prop:=
 ∃r c XB Z H hs b,e= .returned (.int .i64 r)/\qW w' b0 g c XB Z H hs/\GS w' (g+1) c T a hs b Z/\Z.en=true/\Z.err=0/\Z.m<=1000000000/\Z.l.length<=1000000/\Ext b0 w w' E (gX g c XB Z.A Z.Ah)/\((r=0/\b<rk)\/(r≠0/\a=T.1/\hs=T.2.1/\r=T.2.2))
def KZ (w:World) (b0 g:Nat) (E:Nat->Prop) (T:GT) (a:ag) (hs:List (ag)):Prop:=
 ∃c XB Z H rk,qW w b0 g c XB Z H hs/\GS w (g+1) c T a hs rk Z/\Z.en=true/\Z.m<=1000000000/\Z.l.length<=1000000/\E=gX g c XB Z.A Z.Ah/\(Z.err=0\/(Z.err=T.2.2/\a=T.1/\hs=T.2.1))
section
variable {w w':World} {b0 g:Nat} {E:Nat->Prop} {T:GT} {a:ag} {hs:List (ag)}
theorem KZ.keeps (h:KZ w b0 g E T a hs) (b:Below w.heap.size w w'):KZ w' b0 g E T a hs:=by
 obtain⟨c,XB,Z,H,rk,f,e,d⟩ :=h;exact⟨c,XB,Z,H,rk,f.keeps b,e.keeps b,d⟩
theorem KZ.low (h:KZ w b0 g E T a hs):b0<=w.heap.size:=by obtain⟨c,XB,Z,H,rk,b, -⟩ :=h;exact b.low
theorem KZ.xlt (h:KZ w b0 g E T a hs):∀k,E k->b0<=k/\k<w.heap.size:=by
 obtain⟨c,XB,Z,H,rk,b,_,_,_,_,rfl,_⟩ :=h;exact b.qb
theorem KZ.dx {F:Nat->Prop} (h:KZ w b0 g E T a hs) (d:bb w w' F) (hF:∀k,F k->¬E k):KZ w' b0 g E T a hs:=by
 obtain⟨c,XB,Z,H,rk,f,j,i,h4,h5,rfl,h6⟩ :=h;refine⟨c,XB,Z,H,rk,f.dx d (λk b=> ⟨λe=>hF k b (.inl e),λe=>hF k b (.inr (.inl e)),λe=>hF k b (.inr (.inr (.inl e))),λe=>hF k b (.inr (.inr (.inr (.inl e))))⟩) (λk b=> ⟨(f.cb k b).1,aB (f.cb k b).2 d.size⟩) (λ_ _ e=>e),j.aside d (λk b=> ?_) ⟨rfl,rfl,rfl,rfl,rfl,rfl,rfl,rfl,rfl⟩,i,h4,h5,rfl,h6⟩;by_cases e:c k=0
 · exact e
 exact absurd (.inr (.inr (.inr (.inr e)))) (hF k b)
end
theorem a4u {w:World} {b0 g:Nat} {c:Nat->Nat} {XB:Nat->Prop} {Z:GR} {H:List HV} {hs:List (ag)} (h:qW w b0 g c XB Z H hs):∀k,c k≠0->k≠g/\ai Z.A≠some k/\ai Z.Ah≠some k/\¬XB k:=λk a=>
 ⟨λe=>a (by rw[e];exact h.cg),λe=>a (h.cA k e).2.1,λe=>a (h.cH k e).2,λe=>a (h.cX k e).2⟩
theorem a7m {w w':World} {b0 g:Nat} {c c':Nat->Nat} {XB:Nat->Prop} {Z:GR} {H:List HV} {hs:List (ag)} (h:qW w b0 g c XB Z H hs) {b1:Nat} (hD:DE b1 w c w' c'):Ext b0 w w' (gX g c XB Z.A Z.Ah) (gX g c' XB Z.A Z.Ah):=
 Ext.of (hD.2.1.more λk a=> .inr (.inr (.inr (.inr a)))) (λk a=>(h.qb k a).1) h.low λk a=>by
  rcases a with a | a | a | a | a
  · exact .inl (.inl a)
  · exact .inl (.inr (.inl a))
  · exact .inl (.inr (.inr (.inl a)))
  · exact .inl (.inr (.inr (.inr (.inl a))))
  rcases aU k w.heap.size with b | b
  · exact .inl (.inr (.inr (.inr (.inr (by rw[<-hD.2.2 k b];exact a)))))
  exact .inr b
theorem LY (w:World) (b0 g:Nat) (c:Nat->Nat) (XB:Nat->Prop) (Z:GR) (H:List HV) (hs:List (ag)) (h1:qW w b0 g c XB Z H hs) (T:GT) (bI gd:Nat) (M:DM) (S:DS) (y:ag) (m0 f:Nat) (K o:ag) (hp:Z.p=some ⟨gd,0,none⟩) (qY:g+1<=bI) (hM:iy w bI gd c M S)
  (hy:∀v∈y,0<=v/\v<256) (Ro:y.length<=f) (hf:hs.length+f<=1000001) (He:m0<=1000000000) (hh:0<hs.length/\One y m0) (hT:T=(K++((eL y m0).1.all++(gT f (eL y m0) m0).1),hs++(gT f (eL y m0) m0).2.1,(gT f (eL y m0) m0).2.2))
  (am:Z.m+o.length=m0) (OS:Z.Cf=zK 0 o) (z:Z.size=(o.length:Int)) (mA:Z.sS=false) (hA:Z.A=none) (hn:Z.n=0) (yX:Z.cp=0) (hl:Z.l=[]) (lO:ZIn (eL y m0) (o++M.out) M S) (OZ:M.out.length<=70000) (ao:Z.en=true) (fg:Z.err=0) (n:Nat) (nG:0<n) (wG:n<=1000000000):
  Calls Tryz.prog 178 #[.pointer (some ⟨g,0,none⟩), .int .i64 n] w (Tk w b0 g (gX g c XB Z.A Z.Ah) T (K++o) (3*f+4) n):=by
 have bd:=Dy hM.refl lO (n:Int) n ω wG ω;obtain⟨k0, -,k2, -, -, -, -, -, -⟩ :=h1.cells;rw[hp]at k2;have YM:=η bd;have HH:=η (⟨hp,qY,mA,hA,hn,yX,hl⟩ :_/\_/\_/\_/\_/\_/\_);have HY:=η (⟨hy,Ro,hf,He,hh,hT⟩ :_/\_/\_/\_/\_/\_);have G:=η (⟨am,OS,z,ao,fg⟩ :_/\_/\_/\_/\_);have H1:=η h1;have HN:=η (⟨nG,wG⟩ :_/\_);have ca:=η OZ;have tJ:(0:Int)<n/\(n:Int)<=1000000000:=ω;clear bd lO OZ h1 hM nG wG hp qY mA hA hn yX hl hy Ro hf He hh hT am OS z ao fg k0
 go_in
 go_wp2_with fail;refine YM.mono ?_;rintro e w5 ⟨A5,t,d5,r,C,S5,b5,l,R,rfl,lQ,yV,x7,bp,CK,QX,hE⟩;have CQ:=lQ.1;have kB:=ED hE;have mJ:(o++M.out)++b5=(o++l)++C.out:=by rw[av,CK,av]
 rw[mJ]at hE;have CO:=KA hE;obtain⟨t5,VU⟩ :=CO.pre;have QU:∀v∈l,0<=v/\v<256:=λv hv=>ui y m0 v (by rw[VU];simp [hv]);have UO:∀v∈o,0<=v/\v<256:=λv hv=>ui y m0 v (by rw[VU];simp [hv])
 have AY:o.length+l.length<=m0:=by
  have h9:=IG y m0;rw[VU]at h9;simp only [List.length_append]at h9;omega
 have nN:∀k,k<w.heap.size->c k=0->R k=0:=λk b e=>by rw[x7.2.2 k b];exact e
 have h5:qW w5 b0 g R XB Z H hs:=H1.dx x7.2.1 (a4u H1.out) (λk b=> ⟨by have:=(yV.cb k b).1;have:=H1.lo;have:=HH.2.1;omega,(yV.cb k b).2⟩) nN;have DR:=a7m H1.out x7;have SP:=Ow Z.Cf A5 t d5 w5.heap.size l w5 lQ.rd (af _) (yR QU) h5.sm.1 (τ HN.out)
 have U:nL (pD (nL Z.Cf) l t)=zK 0 (o++l):=by
  rw[CQ,G.2.1];exact Ou ω UO
 rw[U]at SP;obtain⟨V,E⟩ :=ν (zK 0 (o++l));rw[E]at SP;obtain⟨-, -, -, -,q4, -⟩ :=h5.cells;obtain⟨s0,ac⟩ :=ν (Z.Cf);rw[ac]at SP q4;have GZ:0<=V/\V<4294967296:=by rw[<-E];exact LA ω (Zq UO QU)
 have Y0:=η SP;have H5:=η (⟨h5,DR,yV,lQ⟩ :_/\_/\_/\_);have HE:=η (⟨hE,CO,AY,E,kB,CQ,QX⟩ :_/\_/\_/\_/\_/\_/\_);have bB:=η GZ;clear SP h5 DR yV lQ hE CO VU t5 QU UO AY E kB CQ QX U ac GZ mJ CK x7 nN bp
 go_wp2_with fail;refine Y0.mono ?_;rintro e w6 ⟨rfl,kE⟩;have h6:=H5.1.keeps kE;have Ci:=H5.2.2.1.keeps kE;have il:=H5.2.2.2.keeps kE;have tT:=H5.2.1.trans (Ext.of (bb.bC (S:=gX g R XB Z.A Z.Ah) kE) (λk b=>(H5.1.qb k b).1) H5.1.low (λk b=> .inl b));obtain⟨k0, -,k2, -,k4,bo, -, -, -⟩ :=h6.cells;have z0:=h6.Ae (i:=0) ω;have z4:=h6.Ae (i:=4) ω;have z5:=h6.Ae (i:=5) ω;rw[HH.1]at k2;rw[G.2.2.1]at bo;have J6:l.length=t:=HE.2.2.2.2.2.1.symm;obtain⟨hE,CO,AY,E,kB,CQ,QX⟩ :=HE.out;have bs:l.length<=Z.m:=by have:=G.1;omega
 obtain⟨m1,rv⟩ :=ν (Z.m-t);have J7:(Z.m:Int)-(t:Int)=(m1:Int):=ω;have cm:IntKind.i64.wrap ((Z.m:Int)-(t:Int))=(m1:Int):=by rw[J7];exact aM _ (ε HY.2.2.2.1 G.1)
 have co:(0:Int)<=(m1:Int)/\(m1:Int)<=1000000000:=by have:=HY.2.2.2.1;have:=G.1;omega
 have cr:(o.length:Int)+(t:Int)<=1000000000/\(0:Int)<=(o.length:Int)/\(0:Int)<=(t:Int)/\(t:Int)<=1000000000:=by have:=HY.2.2.2.1;omega
 have cq:IntKind.u32.wrap (t:Int)=(t:Int):=fq _ ω;obtain⟨I,z⟩ :=ν ((o.length:Int)+(t:Int):Int);have ck:IntKind.u32.wrap ((o.length:Int)+(t:Int))=I:=by rw[z];exact fq _ ω
 obtain⟨W,hW⟩ :=ν (((w6.setCell ⟨g,4,none⟩ (.int .u32 V)).setCell ⟨g,5,none⟩ (.int .u32 I)).setCell ⟨g,0,none⟩ (.int .i64 (m1:Int)))
 have d:bb w6 W (λk=>k=g):=by
  rw[<-hW];exact(((bb.refl w6 (λk=>k=g)).setCell (p:= ⟨g,4,none⟩) (.inl rfl) _).setCell (p:= ⟨g,5,none⟩) (.inl rfl) _).setCell (p:= ⟨g,0,none⟩) (.inl rfl) _
 have eT:Ar W g 9 (gcF { Z with Cf:=V,size:=I,m:=m1 }):=by
  rw[<-hW];exact(((h6.cell.cE 4 _).cE 5 _).cE 0 _).congr (Cy rfl rfl rfl rfl rfl rfl rfl rfl rfl)
 have h7:qW W b0 g R XB { Z with Cf:=V,size:=I,m:=m1 } H hs:=h6.turn d eT (h6.a3D d) ⟨rfl,rfl,rfl⟩ ⟨bB.out,by show 0<=I/\I<4294967296;omega⟩;have P:=Ci.aside d (λk b=>by rw[b];exact h6.cg);have AK:=tT.trans (Ext.of (d.more λk b=>(.inl b:gX g R XB Z.A Z.Ah k)) (λk b=>(h6.qb k b).1) h6.low (λk b=> .inl b))
 have ah:bT .u8 W W.heap.size A5 t l:=(d.rp il.rd (af _) (λh0 ad e b=>by
  have Q:ai A5=some ad.block:=by rw[e];rfl
  have F:=(il.2.lt Q).1;have h9:ad.block=g:=b;have:=HH.2.1;omega)).more d.size
 have al:∀ab,ab=hs->GS W (g+1) R T ((K++o)++l) ab (3*f+4) { Z with Cf:=V,size:=I,m:=m1 }:=λab e=>by
  subst e;obtain⟨hp,qY,mA,hA,hn,yX,hl⟩ :=HH.out;obtain⟨hy,Ro,hf,He,hh,hT⟩ :=HY.out;exact .inr ⟨bI,gd,C,S5,y,m0,f,K,o++l,hp,qY,P,hy,Ro,hf,He,hh,hT,by show m1+_=m0;rw[ae];have:=G.1;omega,by rw[av],E.symm,by show I=_;rw[ae];omega, .inl ⟨mA,rfl,hA,hn,yX,hl,CO,τ ca.out⟩⟩
 have ME:m1<=1000000000:=by have:=HY.2.2.2.1;have:=G.1;omega
 have aE:Z.l.length<=1000000:=by rw[HH.2.2.2.2.2.2];simp
 have O:Hid (∀v:Int,((v=0/\0<l.length)\/(v≠0/\l=[]/\K++o=T.1/\hs=T.2.1/\v=T.2.2))->Tk w b0 g (gX g c XB Z.A Z.Ah) T (K++o) (3*f+4) n (.returned (.tuple #[.slice A5 t d5, .int .i64 v])) W):=λv hv=>by
  refine⟨A5,t,d5,l,v,R,XB,_,H,hs,3*f+4,rfl,ah,kB,h7,al hs rfl,G.2.2.2.1,G.2.2.2.2,ME,aE,AK, ?_⟩;rcases hv with ⟨h,h'⟩ | h
  · exact .inl ⟨h, .inr ⟨rfl,h'⟩⟩
  exact .inr h
 have Mj:T.1=K++((eL y m0).1.all++(gT f (eL y m0) m0).1)/\T.2.1=hs++(gT f (eL y m0) m0).2.1/\T.2.2=(gT f (eL y m0) m0).2.2:=by rw[HY.2.2.2.2.2];exact⟨rfl,rfl,rfl⟩
 have X:l=[]->(eL y m0).2≠8->(eL y m0).1.all=o->K++o=T.1/\hs=T.2.1/\(eL y m0).2=T.2.2:=λe1 Q e3=>by
  obtain⟨t1,t2,t3⟩ :=Mj;rw[LW Q]at t1 t2 t3;exact⟨by rw[t1,e3];simp,by rw[t2];simp,t3.symm⟩
 have HK:=η (⟨h7,P,AK,X,Mj,ME,z,E⟩ :_/\_/\_/\_/\_/\_/\_/\_);have HW:=η hW
 have cj:W.cell? ⟨g,2,none⟩ =some (.pointer (some ⟨gd,0,none⟩)):=by
  obtain⟨-, -,q2, -⟩ :=h7.cells;rw[q2];show some (Value.pointer Z.p)=_;rw[HH.1]
 unfold Hs at hE;have SF:=η hE;have Tq:=η CQ;clear h6 Ci il tT kE hE CO AY E kB CQ QX bs rv z hW d eT h7 P AK ah al ME aE Mj X J6;have d:=SF.out;clear SF;rcases d with ⟨rfl,q1,q2⟩ | ⟨rfl,q1,q2,q3⟩ | ⟨q1,q2,q3,q4,q5,q6,q7⟩
 · have wF:(0:Int)<(t:Int)/\0<t:=by have:=Tq.out;have:=HN.out;omega
   have hf:=η (O 0 (.inl ⟨rfl,τ Tq.out⟩));clear q2 O
   go_wp2_with fail;rw[HW.out];go_returns;exact hf.out
 · by_cases wF:0<t
   · have CP:(0:Int)<(t:Int):=ω;have hf:=η (O 0 (.inl ⟨rfl,τ Tq.out⟩));clear q2 q3 O
     go_wp2_with fail;rw[HW.out];go_returns;exact hf.out
   have D:l=[]:=aC (τ Tq.out)
   have hf:=η (O 5 (.inr ⟨δ,D,by
    rcases q3 with ⟨s,q3,q4⟩ | ⟨q3,_⟩
    · obtain⟨e1,Q⟩ :=C8 q3 q4;rw[q2,ak,D,ak]at Q;have:=HK.2.2.2.1 D (by rw[e1];decide) Q;rw[e1]at this;exact this
    rw[D]at q3;simp at q3⟩))
   have CP:¬(0:Int)<(t:Int):=ω;clear q2 q3 O
   go_wp2_with fail;rw[HW.out];go_returns;exact hf.out
 have wF:t=0:=by have:=Tq.out;rw[q4]at this;simpa using this
 have bl:=η wF
 have u:(eL y m0).1.all=o:=by
  have Q:=q7.all;rw[q6,ak,q4,ak]at Q;exact Q
 have CP:¬(0:Int)<(t:Int):=ω;clear wF;by_cases L:r=8
 rotate_left
 · have cl:(r==8)=false:=by simpa using L
   have hf:=η (O r (.inr ⟨q1,q4,by
    have:=HK.2.2.2.1 q4 (by rw[<-q3];exact L) u;rw[<-q3]at this;exact this⟩))
   clear q1 q2 q3 q5 q6 q7 O L u
   go_wp2_with fail;rw[HW.out];go_returns;exact hf.out
 obtain rfl:r=8:=L;obtain⟨h7,P,AK, -,Mj,ME,z,E⟩ :=HK.out;have Y:(eL y m0).2=8:=q3.symm;have ap:S5.err=8:=by rw[q7.err];exact Y
 obtain⟨bi,be⟩ :=q7.at8 Y;have VO:=a1F (s:=start (dT y) m0) (.start (dH.dT _) m0) Y;have tI:=be.even (.inr (.inr VO));have FO:=bi.x;rw[<-FO,gW]at tI;have bv:=P.lX.le;have rJ:=zP P.refl ap ω
 have sY:dT (C.B.drop (C.a/8))=(eL y m0).1.x:=by
  rw[vd,<-FO];unfold rb;rw[show 8*(C.a/8)=C.a by omega]
 have yx:∀v∈C.B.drop (C.a/8),0<=v/\v<256:=λv hv=>P.lX.jc v (aW hv);have J:C.B.drop (C.a/8)=gU (eL y m0).1.x:=by rw[<-sY,lC yx]
 obtain⟨j,bx,an, -⟩ :=QD Y HY.1;have DK:(C.B.drop (C.a/8)).length<=y.length:=by rw[J,an,ay];omega
 have og:g<W.heap.size:=h7.cell.lt;have Vh:=h7.cell;have Cu:=η rJ;have cc:=η (⟨Y,yx,J,DK⟩ :_/\_/\_/\_);have bM:=η (⟨q4,u⟩ :_/\_);clear tI FO bv rJ Y ap VO bi be sY yx J DK an bx j q1 q2 q3 q5 q6 q7 O h7 P AK q4 Mj ME z E u
 go_wp2_with fail;rw[HW.out];refine Cu.mono ?_;rintro e w7 ⟨A7,k7,c7,rfl,vG,c8,yv,KN,Ra⟩;have AA:R g=0:=HK.1.cg;have kO:=KN.2.1.ar Vh (λe=>e AA);have ce:=kO.aH 1;have cd:=kO.aH 3;have ci:=kO.az 1;have ch:=kO.az 3
 have hf:Hid (Tk w b0 g (gX g c XB Z.A Z.Ah) T (K++o) (3*f+4) n (.returned (.tuple #[.slice none 0 0, .int .i64 0])) ((w7.setCell ⟨g,1,none⟩ (.slice A7 k7 c7)).setCell ⟨g,3,none⟩ (.bool true))):=by
  obtain⟨h7,P,AK, -,Mj,ME,z,E⟩ :=HK.out;obtain⟨Y,yx,J,DK⟩ :=cc.out;obtain⟨hp,qY,mA,hA,hn,yX,hl⟩ :=HH.out;obtain⟨hy,Ro,hf,He,hh,hT⟩ :=HY.out;obtain⟨D,u⟩ :=bM.out;have Mc:∀q,ai A7=some q->W.heap.size<=q:=λq N=>(vG.2.lt N).1;have CE:ai A7≠some g:=λe=>by have:=Mc g e;omega
  have Mt:∀k,k<W.heap.size->R k=0->c8 k=0:=λk b e=>by rw[KN.2.2 k b];exact e
  have F:qW w7 b0 g c8 XB { Z with Cf:=V,size:=I,m:=m1 } H hs:=h7.dx KN.2.1 (a4u h7) (λk b=> ⟨ε ((yv.cb k b).1) h7.lo,(yv.cb k b).2⟩) Mt;have d:bb w7 ((w7.setCell ⟨g,1,none⟩ (.slice A7 k7 c7)).setCell ⟨g,3,none⟩ (.bool true)) (λk=>k=g):=((bb.refl w7 (λk=>k=g)).setCell (p:= ⟨g,1,none⟩) (.inl rfl) _).setCell (p:= ⟨g,3,none⟩) (.inl rfl) _;have bt:∀k,ai Z.Ah=some k->k<W.heap.size:=λk b=>(h7.hdr.own.lt b).2
  refine⟨none,0,0,[],0,c8,XB,{ Z with Cf:=V,size:=I,m:=m1,A:=A7,n:=k7,cp:=c7,l:=C.B.drop (C.a/8),sS:=true },H,hs,3*f+3,rfl, ⟨rfl,Rd.di⟩,aG _, ⟨?_,h7.lo, ?_,F.hdr.dx d (λk b e=>(F.cH k e).1 b) (λk b e=>(F.cX k e).1 b),yx,F.cg,λq N=> ⟨λe=>CE (by rw[N,e]),Ra q N,λe=> ?_,λe=> ?_⟩,F.cH,F.cX,λq N=> ⟨(F.cb q N).1,aB (F.cb q N).2 d.size⟩,F.sm⟩,
   .inr ⟨bI,gd,_,S5,y,m0,f,K,o,hp,qY,yv.aside d (λk b=>by rw[b];exact F.cg),hy,Ro,hf,He,hh,hT, ?_,by rw[ak], ?_, ?_, .inr ⟨rfl,rfl,Y,u.symm,J,by show(C.B.drop (C.a/8)).length<=f;omega⟩⟩,G.2.2.2.1,G.2.2.2.2,ME,by show(C.B.drop (C.a/8)).length<=1000000;omega,AK.trans ⟨?_, ?_,λk b=> ?_⟩, .inl ⟨rfl, .inl ω⟩⟩
  · exact((F.cell.cE 1 _).cE 3 _).congr (Cy rfl rfl rfl rfl rfl rfl rfl rfl rfl)
  · exact((vG.more h7.low).up.far (p:= ⟨g,1,none⟩) CE _).far (p:= ⟨g,3,none⟩) CE _
  · have:=Mc q N;have:=bt q e;omega
  · have:=Mc q N;have:=(h7.hdr.xb q e).2.1;omega
  · show m1+o.length=m0;have:=G.1;have:=J7;have:=bl.out;omega
  · show V=_;rw[<-E,D,ak]
  · show I=_;have:=bl.out;omega
  · exact((KN.1.mono (τ h7.lo)).setCell (p:= ⟨g,1,none⟩) h7.lo _).setCell (p:= ⟨g,3,none⟩) h7.lo _
  · exact((KN.2.1.more λk b=> .inr (.inr (.inr (.inr b)))).setCell (p:= ⟨g,1,none⟩) (.inl (.inl rfl)) _).setCell (p:= ⟨g,3,none⟩) (.inl (.inl rfl)) _
  rcases b with b | b | b | b | b
  · exact .inl (.inl b)
  · exact .inr (Mc k b)
  · exact .inl (.inr (.inr (.inl b)))
  · exact .inl (.inr (.inr (.inr (.inl b))))
  rcases aU k W.heap.size with h | h
  · exact .inl (.inr (.inr (.inr (.inr (by rw[<-KN.2.2 k h];exact b)))))
  exact .inr h
 clear vG yv KN Ra kO Vh Cu
 go_wp2_with fail;go_returns;exact hf.out
theorem QE (w:World) (b0 g:Nat) (c:Nat->Nat) (XB:Nat->Prop) (Z:GR) (H:List HV) (hs:List (ag)) (r:qW w b0 g c XB Z H hs) (T:GT) (a:ag) (bI gd:Nat) (M:DM) (S:DS) (y:ag) (m0 f:Nat) (a0 u:ag) (hp:Z.p=some ⟨gd,0,none⟩) (qY:g+1<=bI) (hM:iy w bI gd c M S)
  (hy:∀v∈y,0<=v/\v<256) (Ro:y.length<=f) (hf:hs.length+f<=1000001) (He:m0<=1000000000) (Q:0<hs.length/\One y m0) (hT:T=(a0++((eL y m0).1.all++(gT f (eL y m0) m0).1),hs++(gT f (eL y m0) m0).2.1,(gT f (eL y m0) m0).2.2))
  (e1:Z.m+u.length=m0) (e2:a=a0++u) (e3:Z.Cf=zK 0 u) (e4:Z.size=(u.length:Int)) (p1:Z.sS=true) (p3:(eL y m0).2=8) (p4:u=(eL y m0).1.all) (p5:Z.l=gU (eL y m0).1.x) (p6:Z.l.length<=f) (R:Z.en=true) (fg:Z.err=0) (hm:Z.m<=1000000000) (ln:Z.l.length<=1000000):
  Calls Tryz.prog 177 #[.pointer (some ⟨g,0,none⟩)] w (EI w b0 g (gX g c XB Z.A Z.Ah) T a (3*f+3)):=by
 obtain⟨i0,hi,ap,ab,ao⟩ :=aL gG;have Hi:=η (⟨hi,ab⟩ :_/\_);obtain⟨-,k1,k2,k3,k4,k5, -⟩ :=r.cells;have Mj:T.1=a0++((eL y m0).1.all++(gT f (eL y m0) m0).1)/\T.2.1=hs++(gT f (eL y m0) m0).2.1/\T.2.2=(gT f (eL y m0) m0).2.2:=by rw[hT];exact⟨rfl,rfl,rfl⟩
 have F:wA Z.l u=0:=by rw[p5,p4];exact(Q.2 p3).1
 have good:Hid (wA Z.l u=0->8<=Z.l.length->∀q,EI w b0 g (gX g c XB Z.A Z.Ah) T a (3*f+3) (.returned (.int .i64 0)) ((((w.drewN q).setCell ⟨g,1,none⟩ (.slice (dw Z.A Z.cp 8) (Z.n-8) (Z.cp-8))).setCell ⟨g,2,none⟩ (.pointer none)).setCell ⟨g,3,none⟩ (.bool false))):=λhv E q=>by
  obtain⟨t1,t2,t3⟩ :=Mj;rw[Up p3 p5.symm p4.symm hv]at t1 t2 t3
  have K:bb w ((((w.drewN q).setCell ⟨g,1,none⟩ (.slice (dw Z.A Z.cp 8) (Z.n-8) (Z.cp-8))).setCell ⟨g,2,none⟩ (.pointer none)).setCell ⟨g,3,none⟩ (.bool false)) (λk=>k=g):=
   (((bb.drewN (bb.refl w (λk=>k=g)) q).setCell (p:= ⟨g,1,none⟩) (.inl rfl) _).setCell (p:= ⟨g,2,none⟩) (.inl rfl) _).setCell (p:= ⟨g,3,none⟩) (.inl rfl) _
  have B:8<=Z.n:=by rw[r.own.1];exact E
  have L:=r.own.blk 8;have O:=(r.own.cut B).dx K (λk o e=>(r.cA k (by rw[<-L];exact o)).1 e)
  refine⟨0,λ_=>0,XB,{ Z with A:=dw Z.A Z.cp 8,n:=Z.n-8,cp:=Z.cp-8,l:=Z.l.drop 8,p:=none,sS:=false },H,hs,3*f+2,rfl, ⟨?_,r.lo,O,r.hdr.dx K (λk o e=>(r.cH k e).1 o) (λk o e=>(r.cX k e).1 o),λv hv=>r.jc v (aW hv),rfl,λk o=> ?_,λk o=> ⟨(r.cH k o).1,rfl⟩,λk o=> ⟨(r.cX k o).1,rfl⟩,λk o=>absurd rfl o,r.sm⟩,
   .inl ⟨rfl,rfl,λ_=>rfl,f,by show(Z.l.drop 8).length<f;rw[ay];omega, ⟨ω, .inl ⟨by show Z.l.drop 8=[];rw[p5];exact(Q.2 p3).2,Q.1⟩⟩,rfl, ?_⟩,R,fg,hm,by show(Z.l.drop 8).length<=_;rw[ay];omega,Ext.of (K.more λk o=> .inl o) (λk o=>(r.qb k o).1) r.low (λk o=> ?_), .inl ⟨rfl,ω⟩⟩
  · exact(((r.cell.drewN q).cE 1 _).cE 2 _ |>.cE 3 _).congr (Cy rfl rfl rfl rfl rfl rfl rfl rfl rfl)
  · have V:=r.cA k (by rw[<-L];exact o);exact⟨V.1,rfl,V.2.2⟩
  · have hd:decide (0<hs.length)=true:=aX Q.1;rw[hd];show T=(a++(gz f (Z.l.drop 8) Z.m true).1,hs++(gz f (Z.l.drop 8) Z.m true).2.1,(gz f (Z.l.drop 8) Z.m true).2.2);rw[show m0-u.length=Z.m by omega]at t1 t2 t3;rw[e2,av,p4,<-t1,<-t2,<-t3]
  rcases o with o | o | o | o | o
  · exact .inl (.inl o)
  · exact .inl (.inr (.inl (by rw[<-L];exact o)))
  · exact .inl (.inr (.inr (.inl o)))
  · exact .inl (.inr (.inr (.inr (.inl o))))
  exact absurd rfl o
 obtain⟨GE,U⟩ :=ν (gX g c XB Z.A Z.Ah);rw[U]at good⊢;have N:=r.own;have D:=r.jc;have an:u.length<=1000000000:=ω;have H1:=η r;obtain⟨A,hA⟩ :=ν (Z.A);obtain⟨n,hn⟩ :=ν (Z.n);obtain⟨d,hd⟩ :=ν (Z.cp);obtain⟨l,hl⟩ :=ν (Z.l);obtain⟨s,hs_⟩ :=ν (Z.Cf);rw[hA,hn,hd,hl]at N;rw[hA,hn,hd]at k1 good;have ac:l.length<8\/8<=l.length:=ω;rw[hl]at good D ln F;rw[hp]at k2;rw[p1]at k3;rw[hs_]at k4 e3;rw[e4]at k5;have fG:=N.1;have eY:=N.iT
 have E:8<=l.length:=by
  rcases ac with E | E
  · unfold wA at F;rw[aa E]at F;exact absurd F δ
  exact E
 have B:8<=n:=ω;have tJ:¬(n:Int)<8/\(n:Int)<=1000000:=ω;have am:8<=d:=aq B eY;have lj:∀W,(Instr.slice 22 (.slice A n d) none (some (.int .i64 4)) none).run Tryz.prog W= .ok (.slice A 4 d) W:=λW=>dR (P:=Tryz.prog) 22 5 Tryz.underlying22 Hi.1 Hi.2 A n d (j:=4) ω W;have ah:∀W,(Instr.slice 22 (.slice A n d) (some (.int .i64 4)) (some (.int .i64 8)) none).run Tryz.prog W= .ok (.slice (dw A d 4) 4 (d-4)) W:=λW=>jE (P:=Tryz.prog) 22 5 Tryz.underlying22 Hi.1 Hi.2 A n d (a:=4) (b:=8) ω ω W;have ad:∀W,(Instr.slice 22 (.slice A n d) (some (.int .i64 8)) none none).run Tryz.prog W= .ok (.slice (dw A d 8) (n-8) (d-8)) W:=λW=>cK (P:=Tryz.prog) 22 5 Tryz.underlying22 Hi.1 Hi.2 A n d (j:=8) ω W;obtain⟨A4,Ch⟩ :=ν (dw A d 4);obtain⟨d4,J0⟩ :=ν (d-4);obtain⟨A8,hA8⟩ :=ν (dw A d 8);obtain⟨n8,I⟩ :=ν (n-8);obtain⟨d8,J⟩ :=ν (d-8);have T7:bT .u8 w w.heap.size A 4 (l.take 4):=N.rd.pre ω
 have VE:bT .u8 w w.heap.size A4 4 ((l.drop 4).take 4):=by
  have V:=(N.rd.dw (j:=4) ω eY).pre (j:=4) ω;rw[Ch]at V;exact V
 rw[Ch,J0]at ah;rw[hA8,I,J]at ad;rw[hA8,I,J]at good
 have hg:wA l u=if rK (l.take 4)≠s\/rK ((l.drop 4).take 4)≠(u.length:Int)then 4 else 0:=by
  unfold wA;rw[a8 ω,show(u.length:Int)%4294967296=(u.length:Int) by omega,e3]
 obtain⟨Y,ll⟩ :=ν (rK (l.take 4));obtain⟨X,G⟩ :=ν (rK ((l.drop 4).take 4));obtain⟨z,hz⟩ :=ν ((u.length:Int):Int);rw[ll,G,hz]at hg;rw[hz]at k5
 have HN:=η (λ(A':ax) (d':Nat) (v':Int) (W:World) (h:(A'=A/\d'=d/\v'=Y)\/(A'=A4/\d'=d4/\v'=X)) (hW:∀(C:ax) (t:ag),bT .u8 w w.heap.size C 4 t->bT .u8 W w.heap.size C 4 t)=>
  show Calls Tryz.prog 181 #[.slice A' 4 d'] W (λe w'=>e= .returned (.int .u32 v')/\∃q,w'=W.drewN q) from by
   rcases h with ⟨rfl,rfl,rfl⟩ | ⟨rfl,rfl,rfl⟩
   · rw[<-ll];exact se W w.heap.size 4 _ _ (l.take 4) (hW _ _ T7) ω (λv hv=>D v (aN hv))
   rw[<-G];exact se W w.heap.size 4 _ _ ((l.drop 4).take 4) (hW _ _ VE) ω (λv hv=>D v (aW (aN hv))))
 have z1:=H1.Ae (i:=1) ω;have z2:=H1.Ae (i:=2) ω;have z3:=H1.Ae (i:=3) ω;have al:∀q,(w.drewN q).cell? ⟨g,4,none⟩ =some (.int .u32 s):=λq=>k4
 obtain⟨c1,c2⟩ :Y=s/\X=z:=by
  rw[hg]at F;by_cases c:Y≠s\/X≠z
  · rw[aa c]at F;exact absurd F δ
  exact⟨eM λe=>c (.inl e),eM λe=>c (.inr e)⟩
 have mS:Hid (Y=s->X=z->∀q,EI w b0 g GE T a (3*f+3) (.returned (.int .i64 0)) ((((w.drewN q).setCell ⟨g,1,none⟩ (.slice A8 n8 d8)).setCell ⟨g,2,none⟩ (.pointer none)).setCell ⟨g,3,none⟩ (.bool false))):=λc1 c2=>good.out (by rw[hg,a8 (by rintro(h | h);exact h c1;exact h c2)]) E;have aE:(8:Int)<=(n:Int):=ω;clear e1 e2 e3 e4 p1 p3 p4 p5 p6 hp qY hM hy Ro hf He Q hT R fg hm ln eY an hA hn hd hl hs_ U;clear good F r N fG Mj hg ll G hz Ch J0 hA8 I J T7 VE D E B am al;have hf:=η (mS c1 c2);clear mS;subst c1 c2
 go_in
 go_wp2_with fail;go_quiet ((go_at_call 181;exact eI (HN _ _ _ _ (by first | exact .inl ⟨rfl,rfl,rfl⟩ | exact .inr ⟨rfl,rfl,rfl⟩) (by exact λ_ _ h=>h))))
 go_wp2_with fail;go_ret;exact hf.out _
def Uo (m:Nat) (A:ax) (n cp:Nat) (l:ag) (en:Bool):GR:= ⟨m,A,n,cp,l,none,false,0,0,none,0,0,en,0⟩
structure GN (w:World) (b0 g m:Nat) (A:ax) (n cp:Nat) (l:ag) (en:Bool):Prop where
 cell:Ar w g 9 (gcF (Uo m A n cp l en))
 lo:b0<=g
 own:fK .u8 w b0 5 A n cp l
 jc:∀v∈l,0<=v/\v<256
 ne:∀k,ai A=some k->k≠g
theorem GN.keeps {w w':World} {b0 g m n cp:Nat} {A:ax} {l:ag} {en:Bool} (h:GN w b0 g m A n cp l en) (a:Below w.heap.size w w'):GN w' b0 g m A n cp l en:= ⟨h.cell.keeps a,h.lo,h.own.keeps a,h.jc,h.ne⟩
theorem GN.st {w:World} {b0 g m n cp:Nat} {A:ax} {l:ag} (h:GN w b0 g m A n cp l true) (c:m<=1000000000) (d:l.length<=1000000) (b:YU 0 l):KZ w b0 g (gX g (λ_=>0) (λ_=>False) A none) (gz (l.length+1) l m false) [] []:=
 ⟨λ_=>0,λ_=>False,Uo m A n cp l true,[],_, ⟨h.cell,h.lo,h.own, ⟨Own.di,rfl,rfl,λi hi=>by simp at hi,λk a=>a.elim⟩,h.jc,rfl,λk a=> ⟨h.ne k a,rfl,by simp [Uo,ai],λe=>e⟩,λk a=>by simp [Uo,ai]at a,λk a=>a.elim,λk a=>absurd rfl a, ⟨ei 0,by show(0:Int)<4294967296;decide⟩,ei 0,by show(0:Int)<4294967296;decide⟩,
   .inl ⟨rfl,rfl,λ_=>rfl,l.length+1,iR _, ⟨ξ,b⟩,rfl,rfl⟩,rfl,c,d,rfl, .inl rfl⟩
theorem QB (w:World) (most:Int) (m:Nat) (d:(m:Int)=max most 0):
  Calls Tryz.prog 39 #[.int .i64 most] w λe w'=>∃g,e= .returned (.pointer (some ⟨g,0,none⟩))/\GN w' w.heap.size g m none 0 0 [] false/\Below w.heap.size w w':=by
 have h:Hid (∀v:Int,v=(m:Int)->∃g,Ending.returned (.pointer (some ⟨w.heap.size,0,none⟩))= .returned (.pointer (some ⟨g,0,none⟩))/\
   GN (w.alloc (.cells #[.int .i64 v, .slice none 0 0, .pointer none, .bool false, .int .u32 0, .int .u32 0, .slice none 0 0, .bool false, .int .i64 0] 112)) w.heap.size g m none 0 0 [] false/\
   Below w.heap.size w (w.alloc (.cells #[.int .i64 v, .slice none 0 0, .pointer none, .bool false, .int .u32 0, .int .u32 0, .slice none 0 0, .bool false, .int .i64 0] 112))):=by
  rintro v rfl;exact⟨_,rfl, ⟨Ar.new w _ _ rfl (Cy rfl rfl rfl rfl rfl rfl rfl rfl rfl),af _,fK.di,λv hv=>by simp at hv,λk f=>by simp [ai]at f⟩,(aw _ w).alloc (af _) _⟩
 have b:(most<0/\m=0)\/(0<most/\(m:Int)=most)\/(most=0/\m=0):=ω;clear d;rcases b with ⟨c,a⟩ | ⟨c,a⟩ | ⟨c,a⟩
 all_goals
  have i:=η a;clear a
  try subst c
  go_in
  go_wp2_with fail;go_ret;exact h.out _ (τ i.out)
theorem QA (w:World) (b0 g m n cp:Nat) (A:ax) (l:ag) (h:GN w b0 g m A n cp l false):
  Calls Tryz.prog 167 #[.pointer (some ⟨g,0,none⟩)] w λe w'=>e= .returned (.tuple #[])/\GN w' b0 g m A n cp l true/\bb w w' (λk=>k=g):=by
 have f:w.cell? ⟨g,7,none⟩ =some (.bool false):=h.cell.az 7;have d:=h.cell.aH 7;have a:bb w (w.setCell ⟨g,7,none⟩ (.bool true)) (λk=>k=g):=bb.setCell (S:=λk=>k=g) (bb.refl w _) (p:= ⟨g,7,none⟩) (.inl rfl) _
 have c:Hid (GN (w.setCell ⟨g,7,none⟩ (.bool true)) b0 g m A n cp l true/\bb w (w.setCell ⟨g,7,none⟩ (.bool true)) (λk=>k=g)):=
  ⟨⟨(h.cell.cE 7 _).congr (Cy rfl rfl rfl rfl rfl rfl rfl rfl rfl),h.lo,h.own.dx a (λk b e=>h.ne k b e),h.jc,h.ne⟩,a⟩
 clear h a
 go_in
 go_wp2_with fail;go_end0;exact⟨rfl,c.out⟩
theorem LZ (w:World) (b0 g m:Nat) (h:GN w b0 g m none 0 0 [] false) (P k cp:Nat) (C:ax) (b:ag) (y:bT .u8 w P C k b) (u:∀v∈b,0<=v/\v<256) (i:b.length<=100000000000):
  Calls Tryz.prog 168 #[.pointer (some ⟨g,0,none⟩), .slice C k cp] w λe w'=>∃A n c,e= .returned (.tuple #[])/\GN w' b0 g m A n c b false/\bb w w' (λk=>k=g)/\∀q,ai A=some q->w.heap.size<=q:=by
 obtain⟨G,hi,o,l,j⟩ :=aL gG;have Hi:=η hi;have O:=η o;have N:=η l;have M:=η j;have T:w.cell? ⟨g,1,none⟩ =some (.slice none 0 0):=h.cell.az 1;have S:w.cell? ⟨g,2,none⟩ =some (.pointer none):=h.cell.az 2;have R:w.cell? ⟨g,7,none⟩ =some (.bool false):=h.cell.az 7;have H:=h.own;have J:k<=100000000000:=by rw[y.1];exact i
 have a:=h.cell;have I:b0<=w.heap.size:=aq h.lo (bE a.lt)
 have K:Hid (∀A2 c2 w2,fK .u8 w2 b0 5 A2 (0+k) c2 ([]++b)->w.grownBy w2 (ai none)->(ai A2=ai none\/ai A2=some w.heap.size)->
   GN (w2.setCell ⟨g,1,none⟩ (.slice A2 k c2)) b0 g m A2 k c2 b false/\bb w (w2.setCell ⟨g,1,none⟩ (.slice A2 k c2)) (λk=>k=g)/\∀q,ai A2=some q->w.heap.size<=q):=by
  intro A2 c2 w2 s f x;rw[bX,ba]at s
  have pY:∀q,ai A2=some q->w.heap.size<=q:=λq d=>by
   rcases x with e | e
   · rw[e]at d;simp [ai]at d
   rw[e]at d;injection d with d;omega
  have r:∀q,ai A2=some q->q≠g:=λq d=>by have:=pY q d;have:=a.lt;omega
  have t:bb w w2 (λk=>k=g):=(bb.refl w _).grown f λq d=>by simp [ai]at d
  have L:Ar w2 g 9 (gcF (Uo m none 0 0 [] false)):=((bb.refl w (λ_=>False)).grown f (λq d=>by simp [ai]at d)).ar a (λe=>e);exact⟨⟨(L.cE 1 _).congr (Cy rfl rfl rfl rfl rfl rfl rfl rfl rfl),h.lo,s.far (p:= ⟨g,1,none⟩) (λe=>r g e rfl) _,u,r⟩,t.setCell (p:= ⟨g,1,none⟩) (.inl rfl) _,pY⟩
 clear h hi o l j i
 go_in
 go_wp2_with (at_builtin;(refine yi .u8 b0 5 G 1 rfl (.tmp 34) (.tmp 35) _ rfl Tryz.underlying22 Hi.out O.out N.out M.out rfl H rfl y ω ω I ?_)
              intro A2 c2 w2 s f x;have z:=((bb.refl w (λ_=>False)).grown f λq d=>by simp [ai]at d).ar a (λe=>e);have Q:=z.aH 1;have F:=z.az 1)
 obtain⟨E,D,B⟩ :=K.out A2 c2 w2 s f x;go_end0;exact⟨_,_,_,rfl,E,D,B⟩
end Go.Proofs.YtgiimmkmjpbecaaGreat
