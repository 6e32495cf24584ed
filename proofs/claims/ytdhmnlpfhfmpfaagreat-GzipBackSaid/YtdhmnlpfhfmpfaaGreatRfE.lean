/-
  part
-/
import Derived.Test.YtdhmnlpfhfmpfaaGreatArr
import Derived.Test.YtdhmnlpfhfmpfaaGreatPk35
namespace Go.Proofs.YtdhmnlpfhfmpfaaGreat
open Go.RowKit
set_option linter.unusedVariables false
set_option maxRecDepth 100000
set_option maxHeartbeats 8000000
section
variable {w w' w0 w2 wr w5:World} {b0 g:Nat} {c c0 c':Nat->Nat} {R R' R1:RM} {s t t':IS} {v:Int}
theorem a88 (x:aj) (h:dO x) (f:14<=x.length):num x 14%32=num x 5/\num x 14/32%32=num (x.drop 5) 5/\num x 14/1024=num (x.drop 10) 4:=by
 have b:=(xQ x h 5 9).resolve_right ω;have a:=(xQ (x.drop 5) (h.ed 5) 5 4).resolve_right (by rw[az];omega);rw[bn]at a;have b:num x 14=num x 5+2 ^ 5*num (x.drop 5) 9:=b;have a:num (x.drop 5) 9=num (x.drop 5) 5+2 ^ 5*num (x.drop 10) 4:=a;have d:=gI h 5;have c:=gI (h.ed 5) 5;have e:(2:Nat) ^ 5=32:=δ;rw[e]at b a d c;refine⟨?_, ?_, ?_⟩ <;> omega
theorem DE.own (hd:DE b0 w0 c0 w c) (b:bk w w' (λk=>w0.heap.size<=k)) (d:b0<=w0.heap.size):DE b0 w0 c0 w' c:=
 ⟨hd.1.trans (b.below (b0:=b0) (λk a=>aw d a) (aw d hd.2.1.size)),hd.2.1.trans b (λk a=> .inr a),hd.2.2⟩
def iO (w:World) (b0 g:Nat) (c:Nat->Nat) (R:RM) (s:IS) (e:Ending) (w':World):Prop:=
 (∃R' t c' Al nl cl Ad b d,e= .returned (.bool true)/\il w' b0 g c' R'/\DE b0 w c w' c'/\IS.Steps s t/\t.st=6/\t.Ok/\og R' t/\R'.Al= .slice Al nl cl/\R'.Ad= .slice Ad b d/\bT .i64 w' w'.heap.size Al nl t.lt/\bT .i64 w' w'.heap.size Ad b t.ds/\(0<nl->∀a,Al=some a->c' a.block=0)/\(0<b->∀a,Ad=some a->c' a.block=0)/\EA R R')\/
 (∃R' t v,e= .returned (.bool false)/\bV w c w' b0 g R'/\s.fin=(t,v)/\v≠8/\Kv R' t v)
theorem iO.bad (a:IS.Steps s t) (h:t.step=(t',v)) (e:v≠0) (d:v≠8) (b:bV w c w' b0 g R') (hE:Kv R' t' v):iO w b0 g c R s (.returned (.bool false)) w':=
 .inr ⟨R',t',v,rfl,b,by rw[<-a.mG,IS.iA (by rw[h];exact e),h],d,hE⟩
def HdR (w:World) (b0 g:Nat) (c:Nat->Nat) (R:RM) (s:IS) (A B C:Nat) (d go:Nat) (k:Nat) (b a:Value) (wr:World):Prop:=
 ∃j R' t c',j<=C/\Hid (k=C-j)/\a= .int .i64 j/\b= .bool (!gU t.lens)/\il wr b0 g c' R'/\DE b0 w c wr c'/\c' d=0/\c' go=0/\IS.Steps s t/\og R' t/\t.Ok/\t.st=4/\Hid (t.lens.length=j)/\Hid (t.c0=A/\t.c1=B/\t.c2=C)/\Ar wr d 19 (hF t.lens j)/\Ar wr go 19 (λp=> .int .i64 (lD.getD p 0:Nat))/\EA R R'
structure YE (w:World) (b0 g:Nat) (c:Nat->Nat) (gh gc:Nat) (H:aj) (R:RM) (Al:ay) (n cp:Nat) (l:aj) (wr:World) (c':Nat->Nat):Prop where
 own:ba .i64 wr w.heap.size 3 Al n cp l
 ref:il wr b0 g c' R
 de:DE b0 w c wr c'
 cgh:c' gh=0
 cgc:c' gc=0
 row:∀q,ak Al=some q->c' q=0/\q≠gh/\q≠gc
 rH:bT .i64 wr wr.heap.size (some ⟨gh,0,none⟩) 19 H
 rC:bT .u32 wr wr.heap.size (some ⟨gc,0,none⟩) 19 (jk H)
 lh:gh<wr.heap.size
 lc:gc<wr.heap.size
theorem YE.push {p r:Nat} {H l:aj} {Al i:ay} {n cp o d4:Nat} {f:World} (h:YE w b0 g c p r H R Al n cp l wr c') (u:b0<=w.heap.size) (v:Int) (j:(wr.alloc (.cells #[.int .i64 v] 3)).grownBy f (ak Al)) (s:ba .i64 f w.heap.size 3 i o d4 (l++[v])) (k:ak i=ak Al\/ak i=some (wr.alloc (.cells #[.int .i64 v] 3)).heap.size):
  YE w b0 g c p r H R i o d4 (l++[v]) f c':=by
 have d:bk wr f (λq=>ak Al=some q):=((bk.refl wr (λq=>ak Al=some q)).alloc _).grown j (λq e=> .inl e);have t:∀q,ak Al=some q->w.heap.size<=q:=λq b=>(h.own.2.lt b).1;have a:=d.size;refine⟨s,h.ref.aside d (λq b=>(h.row q b).1),h.de.own (d.more t) u,h.cgh,h.cgc,λq b=> ?_,(d.ri h.rH (ai _) (λ_ x e m=> ?_)).more a,(d.ri h.rC (ai _) (λ_ x e m=> ?_)).more a,aB h.lh a,aB h.lc a⟩
 · rcases k with e | e
   · exact h.row q (by rw[<-e];exact b)
   rw[e]at b;injection b with b;simp at b;have z:=h.lh;have y:=h.lc;refine⟨?_,ω,ω⟩;by_cases e:c' q=0
   · exact e
   have:=(h.ref.cb q e).2;omega
 · injection e with e;subst e;exact(h.row _ m).2.1 rfl
 injection e with e;subst e;exact(h.row _ m).2.2 rfl
theorem YE.turn {m o:Nat} {H l:aj} {Al:ay} {n cp:Nat} (h:YE w b0 g c m o H R Al n cp l wr c') (p:bV wr c' w' b0 g R'):∃j,YE w b0 g c m o H R' Al n cp l w' j:=by
 obtain⟨j,s,f⟩ :=p;have d:=f.2.1;have a:=d.size;refine⟨j,d.dX h.own (λq b e=>e (h.row q b).1),s,h.de.step h.ref.lo (λk r=>(h.ref.cb k r).1) d f.2.2,(f.2.2 _ h.lh).trans h.cgh,(f.2.2 _ h.lc).trans h.cgc,λq b=> ⟨(f.2.2 _ (h.own.2.lt b).2).trans (h.row q b).1,(h.row q b).2⟩,(d.ri h.rH (ai _) (λ_ t e i=> ?_)).more a,(d.ri h.rC (ai _) (λ_ t e i=> ?_)).more a,aB h.lh a,aB h.lc a⟩
 · injection e with e;subst e;exact i h.cgh
 injection e with e;subst e;exact i h.cgc
def LnR (w:World) (b0 g:Nat) (c:Nat->Nat) (R:RM) (s:IS) (A B:Nat) (b d:Nat) (H:aj) (k:Nat) (a:Value) (wr:World):Prop:=
 ∃R' t c' Al n cp,a= .slice Al n cp/\YE w b0 g c b d H R' Al n cp t.lens wr c'/\IS.Steps s t/\og R' t/\t.Ok/\t.st=5/\Hid (k=t.mu)/\Hid (t.c0=A/\t.c1=B/\t.hd=H)/\EA R R'
def RpR (w:World) (b0 g:Nat) (c:Nat->Nat) (d e:Nat) (H:aj) (R1:RM) (l:aj) (K:Int) (N:Nat) (c':Nat->Nat) (k:Nat) (b a:Value) (wr:World):Prop:=
 ∃j A n cp,j<=N/\Hid (k=N-j)/\a= .int .i64 j/\b= .slice A n cp/\YE w b0 g c d e H R1 A n cp (l++List.replicate j K) wr c'
theorem Zw {l:aj} {j:Nat} (c:j<19) (b:l.length=j) (V:Int):∀q,q<19->upd (hF l j) (lD.getD j 0) (.int .i64 V) q=hF (l++[V]) (j+1) q:=λq a=>by
 have h:=NM (l:=l++[V]) (i:=j) c a;have e:ix (l++[V]) j=V:=by rw[dg,aa ω,b,dG];rfl
 rw[e]at h;rw[<-h];by_cases hp:q=lD.getD j 0
 · rw[hp,upd_same,upd_same]
 rw[dx _ _ hp,dx _ _ hp];unfold hF;by_cases hi:lD.idxOf q<j
 · rw[af hi,af hi,dg,af ω]
 rw[aa hi,aa hi]
theorem Mk (l:aj) (V:Int):gU (l++[V])=(gU l&&(V==0)):=by simp [gU]
theorem MM (h:t.step.2=5):t.step=(t,5):=Prod.ext (IS.Ec h) h
def QX (w:World):World:=(w.alloc (.cells (([16,17,18,0,8,7,9,6,10,5,11,4,12,3,13,2,14,1,15]:aj).map (Value.int .i64)).toArray 3)).alloc (.cells (eH 19 (.int .i64 0)) 3)
theorem Mt (w:World) (l:aj):Below w.heap.size w (QX w)/\Ar (QX w) w.heap.size 19 (λp=> .int .i64 (lD.getD p 0:Nat))/\Ar (QX w) (w.heap.size+1) 19 (hF l 0):=by
 refine⟨((ax _ w).alloc (ai _) _).alloc σ _, ?_, ?_⟩
 · refine(Ar.new (m:=19) (f:=λp=> .int .i64 (lD.getD p 0:Nat)) w _ 3 rfl (λi hi=> ?_)).alloc _;obtain rfl | rfl | rfl | rfl | rfl | rfl | rfl | rfl | rfl | rfl | rfl | rfl | rfl | rfl | rfl | rfl | rfl | rfl | rfl:i=0\/i=1\/i=2\/i=3\/i=4\/i=5\/i=6\/i=7\/i=8\/i=9\/i=10\/i=11\/i=12\/i=13\/i=14\/i=15\/i=16\/i=17\/i=18:=ω;all_goals rfl
 have a:=(Ar.zeros (w.alloc (.cells (([16,17,18,0,8,7,9,6,10,5,11,4,12,3,13,2,14,1,15]:aj).map (Value.int .i64)).toArray 3)) 19 (.int .i64 0) 3).congr (f':=hF l 0) λp _=>NN l p;rw[show(w.alloc (.cells (([16,17,18,0,8,7,9,6,10,5,11,4,12,3,13,2,14,1,15]:aj).map (Value.int .i64)).toArray 3)).heap.size=w.heap.size+1 by simp]at a;exact a
theorem FT (h:il w b0 g c R) (a:og R s) (hO:s.Ok) (f:s.st=3):
  Calls Tryz.prog 54 #[.pointer (some ⟨g,0,none⟩)] w (iO w b0 g c R s):=by
 obtain⟨i0,hi,cn,cm,cl⟩ :=aL mQ;have Hi:=η hi;have i7:=η cn;have gp:=η cm;have i9:=η cl;have fl:=a.len;have fs:=a.le;have u:Hid (s.step=s.sizes):=by show _=_;unfold IS.step;rw[aa ω,aa ω,aa ω,af f]
 unfold IS.sizes at u;have k1:=h.cell.cell (i:=1) ω;have z1:=h.cell.frozen' (i:=1) ω;have k5:=h.cell.cell (i:=5) ω;have k6:=h.cell.cell (i:=6) ω;rw[show sF R 5= .slice R.Ab R.nb R.cb from rfl]at k5;rw[show sF R 6= .int .i64 (R.at_:Nat) from rfl]at k6;obtain⟨e,he⟩ :=ν (R.at_+14);have hw:IntKind.i64.wrap ((R.at_:Int)+14)=(e:Int):=by rw[aM _ ω];omega
 have qO:R.nb=R.X.length:=h.bits.1;have ct:s.x.length=R.X.length-R.at_:=by rw[<-a.x,az]
 have hS:=h.refl;have gj:=η f;clear hi cn cm cl;by_cases ah:(R.nb:Int)<(e:Int)
 · have F:=η (u.out.trans (af ω));have r:=hS.drew.put (i:=1) ω (.int .i64 5) { R with E:=5 } (fR rfl rfl rfl rfl rfl rfl rfl rfl rfl rfl rfl rfl rfl) rfl;clear he qO ct u f;go_enter Tryz.func54,Tryz.ntmps54
   go_wp2_with fail;go_region
   all_goals
    go_wp2_with fail;go_ret;exact iO.bad (.refl s) F.out δ δ r ⟨a.out,a.kinds,a.stops,a.au,rfl⟩
 have Q:=η (u.out.trans (aa ω));have pX:dO s.x:=hO.bit;obtain⟨n1,n2,n3⟩ :=a88 s.x pX ω;have l1:=gI pX 5;have l2:=gI (pX.ed 5) 5;have l3:=gI (pX.ed 10) 4;obtain⟨A,hA⟩ :=ν (num s.x 5);obtain⟨B,hB⟩ :=ν (num (s.x.drop 5) 5);obtain⟨C,hC⟩ :=ν (num (s.x.drop 10) 4);rw[n1,n2,n3,hA,hB,hC]at Q;have vx:=η (jZ hS.drew 5 ω ω a.bit ω (A:Int) (by rw[a.x,hA]));have O9:=λW (hW:bV w c W b0 g { R with at_:=R.at_+5 })=>jZ hW 5 ω (by show R.X.length<=_;omega) a.bit (by show R.at_+5+5<=R.X.length;omega) (B:Int) (by show _=((num (R.X.drop (R.at_+5)) 5:Nat):Int);rw[<-bn,a.x,hB]);have QH:=λW (hW:bV w c W b0 g { R with at_:=R.at_+5+5 })=>jZ hW 4 ω (by show R.X.length<=_;omega) a.bit (by show R.at_+5+5+4<=R.X.length;omega) (C:Int) (by show _=((num (R.X.drop (R.at_+5+5)) 4:Nat):Int);rw[eY,<-bn,a.x,hC]);have XU:=η O9;have cX:=η QH;have e5:(2:Nat) ^ 5=32:=δ;have e4:(2:Nat) ^ 4=16:=δ;rw[hA,e5]at l1;rw[hB,e5]at l2;rw[hC,e4]at l3;obtain⟨A1,wV⟩ :=ν (A+257);obtain⟨O,Lj⟩ :=ν (B+1);obtain⟨C1,Zs⟩ :=ν (C+4);rw[wV,Lj,Zs]at Q;have eS:(A:Int)+257=(A1:Int):=ω;have ey:(B:Int)+1=(O:Int):=ω;have ex:(C:Int)+4=(C1:Int):=ω;have jW:(0:Int)<=A/\(A:Int)<32/\(0:Int)<=B/\(B:Int)<32/\(0:Int)<=C/\(C:Int)<16:=ω;have gf:(257:Int)<=A1/\(A1:Int)<=288/\(1:Int)<=O/\(O:Int)<=32/\(4:Int)<=C1/\(C1:Int)<=19:=ω;have dl:Hid (R.X.drop (R.at_+5+5+4)=s.x.drop 14):=by show _=_;rw[<-a.x,bn]
 have er:Hid (R.at_+5+5+4<=R.X.length):=by show _<=_;omega
 clear n1 n2 n3 hA hB hC e5 e4 wV Lj Zs l1 l2 l3 he qO ct u f O9 QH;by_cases lF:(286:Int)<A1\/(30:Int)<O
 · have ae:=η (Q.out.trans (af ω));have cc:(286:Int)<A1\/(¬(286:Int)<A1/\(30:Int)<O):=ω;clear lF Q;rcases cc with r | ⟨r,U⟩
   all_goals
    go_enter Tryz.func54,Tryz.ntmps54
    go_wp2_with fail;go_region
    all_goals
     go_wp2_with fail;refine vx.out.mono ?_;rintro e w3 ⟨rfl,h3⟩
     go_wp2_with fail;refine(XU.out _ h3).mono ?_;rintro e w4 ⟨rfl,h4⟩
     go_wp2_with fail;refine(cX.out _ h4).mono ?_;rintro e w5 ⟨rfl,h5⟩;have j1:=h5.cell.cell (i:=1) ω;have y1:=h5.cell.frozen' (i:=1) ω;have h6:=h5.put (i:=1) ω (.int .i64 2) { R with at_:=R.at_+5+5+4,E:=2 } (fR rfl rfl rfl rfl rfl rfl rfl rfl rfl rfl rfl rfl rfl) rfl
     go_wp2_with fail;go_ret;exact iO.bad (.refl s) ae.out δ δ h6 ⟨a.out,a.kinds,a.stops,a.au,rfl⟩
 have ae:=η (Q.out.trans (aa ω));have r:¬(286:Int)<A1:=ω;have U:¬(30:Int)<O:=ω;clear lF Q;have oZ:∀W,(Instr.makeSlice 63 (.int .i64 19) (.int .i64 19)).run Tryz.prog W= .ok (.slice (some ⟨W.heap.size,0,none⟩) 19 19) (W.alloc (.cells (eH 19 (.int .i64 0)) 3)):=λW=>fV (P:=Tryz.prog) 63 3 i0 (.int .i64 0) Tryz.underlying63 Hi.out i7.out gp.out rfl .i64 .i64 19 (by rw[i9.out];omega) ω W;have fb:=η oZ;clear oZ;go_enter Tryz.func54,Tryz.ntmps54
 go_wp2_with fail;go_region
 all_goals
  go_wp2_with fail;refine vx.out.mono ?_;rintro e w3 ⟨rfl,h3⟩
  go_wp2_with fail;refine(XU.out _ h3).mono ?_;rintro e w4 ⟨rfl,h4⟩
  go_wp2_with fail;refine(cX.out _ h4).mono ?_;rintro e w5 ⟨rfl,h5⟩;go_upto_region 13 with fail
  refine wp_region_list ?_;refine wpList_buildFlatAt rfl 63 3 19 _ rfl .i64 [16,17,18,0,8,7,9,6,10,5,11,4,12,3,13,2,14,1,15] _ rfl _ rfl Tryz.underlying63 (by kernel_rfl) (by kernel_rfl) rfl δ δ rfl ?_;have oZ:=fb.out
  go_wp2_with fail
  change Code.wp _ _ _ _ (QX w5)
  have Co:=Mt w5 [];obtain⟨go,al⟩ :=ν (w5.heap.size)
  have lq:Hid (HdR w b0 g c R s A1 O C1 (go+1) go C1 (.bool false) (.int .i64 0) (QX w5)):=by
   obtain⟨c5,Ln,K8⟩ :=h5
   have be:∀q,w5.heap.size<=q->c5 q=0:=λq hq=>by
    by_cases e:c5 q=0
    · exact e
    have:=(Ln.cb q e).2;omega
   have vQ:=hO.step (.inl (by rw[ae.out]));have cL:=IS.Steps.one (s:=s) (by rw[ae.out]);rw[ae.out]at vQ cL;exact⟨0,{ R with at_:=R.at_+5+5+4 },_,c5,aF _,rfl,rfl,rfl,Ln.keeps Co.1,K8.step Ln.lo (λk y=>(Ln.cb k y).1) (bk.bJ Co.1) (λ_ _=>rfl),be _ ω,be _ ω,cL, ⟨dl.out,er.out,a.out,a.kinds,a.stops,a.au,a.most,a.E,a.bit,a.len,a.even,a.small,aw a.tk (by show R.at_<=R.at_+5+5+4;omega)⟩,vQ,rfl,rfl, ⟨rfl,rfl,rfl⟩,by rw[<-al];exact Co.2.2,by rw[<-al];exact Co.2.1, ⟨rfl,rfl,rfl,by show R.at_<=R.at_+5+5+4;omega⟩⟩
  have ec:Hid (w.heap.size<=go):=by show _<=_;rw[<-al];exact h5.aside.1.size
  rw[al];clear Co oZ h5 h4 h3 al a hO k1 z1 k5 k6 hS;generalize QX w5=wo at lq⊢;have oX:=h.cell.lt;have uC:=h.lo;go_loopg [11,12] C1 (HdR w b0 g c R s A1 O C1 (go+1) go)
  case atStart=>exact lq.out
  clear lq;obtain⟨j,R1,t,c',hj,y,rfl,rfl,M,hD,bl,bi,F,a,hO,f,S,bo,gu,bp,G⟩ :=hrel;have B6:=a.len;have B4:=a.le;have mf:t.x.length=R1.X.length-R1.at_:=by rw[<-a.x,az]
  have fd:=S;have ck:=bo;have T7:=η f;have cj:=η bl;have dd:=η bi;by_cases eb:(j:Int)<(C1:Int)
  · have jE:t.lens.length<t.c2:=by have:=S.out;have:=bo.out.2.2;omega
    by_cases D:t.x.length<3
    · have hs3:=η (MM (AW f jE D));have ht:=η (oa M.refl 3 ω ω B4 ω);clear D mf jE f bl bi B6 B4
      go_wp2_with fail;refine ht.out.mono ?_;rintro e H ⟨rfl,h6⟩
      go_wp2_with fail;go_ret;exact iO.bad F hs3.out δ δ (bV.fo M hD h6) ⟨a.out,a.kinds,a.stops,a.au,rfl⟩
    have hs3:=η (AX f jE D);have VP:=gI (hO.bit) 3;obtain⟨V,hV⟩ :=ν (((num t.x 3:Nat):Int):Int);have ht:=η (jZ M.refl 3 ω ω a.bit ω V (by rw[a.x,hV]));rw[hV]at hs3;have Lq:0<=V/\V<8:=by have:(2:Nat) ^ 3=8:=δ;omega
    have QJ:Hid (R1.X.drop (R1.at_+3)=t.x.drop 3):=by show _=_;rw[<-a.x,bn]
    have pD:Hid (R1.at_+3<=R1.X.length):=by show _<=_;omega
    have Y9:(0:Int)<=j/\(j:Int)<19:=ω;have hp:=NR j ω;have Bb:=η (Zw (l:=t.lens) (j:=j) ω S.out V);obtain⟨p,zb⟩ :=ν (lD.getD j 0);rw[zb]at hp Bb;have fm:(0:Int)<=p/\(p:Int)<19:=ω;have N9:=η (Mk t.lens V);have ej:=η zb;clear D mf jE f bl bi B6 B4 VP hV zb
    go_wp2_with fail;refine ht.out.mono ?_;rintro e H ⟨rfl,c6,Sd,Ll⟩;have oL:=Ll.2.1.ar gu (λe=>e cj.out);have cH:=Ll.2.1.ar bp (λe=>e dd.out);have q1:=cH.cell (i:=j) ω;rw[ej.out]at q1;have q2:=oL.cell (i:=p) hp;have q3:=oL.frozen' (i:=p) hp;have fA:go+1<H.heap.size:=oL.lt
    have LR:Hid (∀nb,nb= !gU (t.lens++[V])->HdR w b0 g c R s A1 O C1 (go+1) go (gk-1) (.bool nb) (.int .i64 ((j:Int)+1)) (H.setCell ⟨go+1,p,none⟩ (.int .i64 V))):=λnb qO=>by
     have J:=hO.step (.inl (by rw[hs3.out]));have I:=IS.Steps.tail F (by rw[hs3.out]);rw[hs3.out]at J I;have cG:c6 (go+1)=0:=by rw[Ll.2.2 _ gu.lt];exact cj.out
     have eg:c6 go=0:=by rw[Ll.2.2 _ bp.lt];exact dd.out
     have cD:bk H (H.setCell ⟨go+1,p,none⟩ (.int .i64 V)) (λk=>k=go+1):=(bk.refl H (λk=>k=go+1)).setCell (p:= ⟨go+1,p,none⟩) (.inl rfl) _;have ew:DE b0 w c H c6:=hD.step M.lo (λk y=>(M.cb k y).1) Ll.2.1 Ll.2.2;refine⟨j+1,_,_,c6,ω,by show gk-1=_;have:=y.out;omega,by go_num,by rw[qO],Sd.aside cD (λk y=>by rw[y];exact cG),ew.own (cD.more λk y=>by rw[y];exact aw ec.out (fq _)) uC,cG,eg,I, ⟨QJ.out,pD.out,a.out,a.kinds,a.stops,a.au,a.most,a.E,a.bit,a.len,a.even,a.small,aw a.tk (by show R1.at_<=R1.at_+3;omega)⟩,J,T7.out,by show(t.lens++[V]).length=_;rw[ag,fd.out];rfl,ck.out,(oL.bK hp _).congr λq hq=>Bb.out q hq,cH.far (p:= ⟨go+1,p,none⟩) (by show go≠go+1;omega) _, ⟨G.X,G.kinds,G.stops,aw G.le (by show R1.at_<=R1.at_+3;omega)⟩⟩
    clear Sd Ll gu bp;cases qO:gU t.lens
    · rw[qO]at N9;have rF:Hid (true= !gU (t.lens++[V])):=by show _=_;rw[N9.out];rfl
      clear N9 qO
      go_wp2_with fail;go_roundg (gk-1)
      case measure=>have:=y.out;omega
      case rel=>exact LR.out _ rF.out
    rw[qO]at N9;by_cases yU:V=0
    · have rF:Hid (false= !gU (t.lens++[V])):=by show _=_;rw[N9.out,yU];rfl
      have et:¬(0:Int)<V:=ω;clear N9 qO;subst yU
      go_wp2_with fail;go_roundg (gk-1)
      case measure=>have:=y.out;omega
      case rel=>exact LR.out _ rF.out
    have rF:Hid (true= !gU (t.lens++[V])):=by
     show _=_;have:(V==0)=false:=by simpa using yU
     rw[N9.out,this];rfl
    have et:(0:Int)<V:=ω;clear N9 qO yU
    go_wp2_with fail;go_roundg (gk-1)
    case measure=>have:=y.out;omega
    case rel=>exact LR.out _ rF.out
  obtain rfl:j=C1:=ω;clear eS ey ex hj y eb;obtain⟨z,aE⟩ :=ν (t.lens);rw[<-S.out,aE]at gu;have ap:bT .i64 wr wr.heap.size (some ⟨go+1,0,none⟩) 19 (iK z):= ⟨(ng z).symm,(gu.rd (B:=wr.heap.size) gu.lt (ai 19)).congr λq hq=>Ur hq⟩;have Qd:=η (Dr (t:=t) f (ε S.out bo.out.2.2));have LO:=η (IC (t:=t) f (ε S.out bo.out.2.2));rw[aE]at Qd LO⊢;have gm:=η aE;have ee:=gu.lt;have cr:=λW (hW:bT .i64 W wr.heap.size (some ⟨go+1,0,none⟩) 19 (iK z))=>uT (some ⟨go+1,0,none⟩) 19 19 _ (iK z) 7 W hW ω;have ab:=η (cr wr ap);have Gx:=M.cell.cell (i:=1) ω;have es:=M.cell.frozen' (i:=1) ω;have UO:Hid (bV w c (wr.setCell ⟨g,1,none⟩ (.int .i64 3)) b0 g { R1 with E:=3 }):=bV.fo M hD (M.refl.put (i:=1) ω (.int .i64 3) { R1 with E:=3 } (fR rfl rfl rfl rfl rfl rfl rfl rfl rfl rfl rfl rfl rfl) rfl);clear aE f cr gu bp bl bi B6 B4 mf;by_cases tV:bg (iK z) 7=0
  rotate_left
  · have hs3:=η (Qd.out (.inl tV));obtain⟨E7,cQ⟩ :=ν (bg (iK z) 7);rw[cQ]at ab tV;have LF:(E7==0)=false:=by simpa using tV
    generalize gU z=nbv;clear cQ Qd LO;cases nbv
    all_goals
     go_wp2_with fail;refine ab.out.mono ?_;rintro e H ⟨rfl,rfl⟩
     go_wp2_with fail;go_ret;exact iO.bad F hs3.out δ δ UO.out ⟨a.out,a.kinds,a.stops,a.au,rfl⟩
  cases Cn:gU z
  · have hs3:=η (LO.out (by rw[tV,Cn];simp));have XP:=η tV;rw[tV]at ab;clear tV Cn Qd LO UO
    go_wp2_with fail;refine ab.out.mono ?_;rintro e H ⟨rfl,rfl⟩
    go_wp2_with fail;refine(uU _ _ _ _ _ _ ap (ai _) ω).mono ?_;rintro e w7 ⟨gc,rfl,qx,rJ,Y5⟩
    have be:c' gc=0:=by
     by_cases e:c' gc=0
     · exact e
     have:=(M.cb _ e).2;omega
    have ef:gc<w7.heap.size:=by
     obtain⟨ad,e,hb, -⟩ :=qx.at_ (i:=0) ω;injection e with e;subst e;exact hb
    have cu:YE w b0 g c (go+1) gc (iK z) R1 none 0 0 [] w7 c':= ⟨ba.dN,M.keeps rJ,hD.step M.lo (λk y=>(M.cb k y).1) (bk.bJ rJ) (λ_ _=>rfl),cj.out,be,λq hq=>by simp [ak]at hq,(ap.below rJ).more rJ.size,qx,aB ee rJ.size,ef⟩
    have Fh:Hid (∃k,LnR w b0 g c R s A1 O (go+1) gc (iK z) k (.slice none 0 0) w7):=by
     have J:=hO.step (.inl (by rw[hs3.out]));have I:=IS.Steps.tail F (by rw[hs3.out]);rw[hs3.out]at J I;exact⟨_,R1,_,c',none,0,0,rfl,cu,I, ⟨a.x,a.le,a.out,a.kinds,a.stops,a.au,a.most,a.E,a.bit,a.len,a.even,a.small,a.tk⟩,J,rfl,rfl, ⟨ck.out.1,ck.out.2.1,rfl⟩,G⟩
    obtain⟨k0,Fh⟩ :=Fh.out;have db:=η Fh;clear Fh cu qx M hD a hO ap Gx es F G hs3
    go_wp2_with fail;go_loopg [16] k0 (LnR w b0 g c R s A1 O (go+1) gc (iK z))
    case atStart=>exact db.out
    clear db;obtain⟨d,b,c2,Al,n,cp,rfl,hN,F,a,hO,f,y,Lz,G⟩ :=hrel;have fz:n=b.lens.length:=hN.own.1;obtain⟨q1,q2,q3,q4⟩ :=hO.h5 f;have Iy:=Lz.out;have x6:(0:Int)<=n/\(n:Int)<=320:=ω;have uo:=η fz;have da:=η f;have gl:=η q1;have uD:bg (iK z) 7=0:=XP.out
    have lG:∀i,i<19->0<=ix (iK z) i/\ix (iK z) i<=15:=λi hi=>by
     have:0<=ix (iK z) i/\ix (iK z) i<=7:=by
      apply Classical.byContradiction
      intro ds;rw[uu (by rw[ng];exact hi) ds]at uD;exact absurd uD δ
     omega
    have cw:=a.len;have LI:=a.le;have QK:b.x.length=d.X.length-d.at_:=by rw[<-a.x,az]
    by_cases fr:(n:Int)<(A1:Int)+(O:Int)
    rotate_left
    · have du:n=A1+O:=ω;have bv:=η (J6 f ω);have fI:=hN.own.2.jT;have QE:=dQ (P:=Tryz.prog) 63 3 Tryz.underlying63 Hi.out gp.out Al n cp (j:=A1) ω;have Fq:=cZ (P:=Tryz.prog) 63 3 Tryz.underlying63 Hi.out gp.out Al n cp (j:=A1) ω;have y8:=hN.ref.cell.frozen' (i:=8) ω;have x8:=hN.ref.cell.cell (i:=8) ω;have Dp:=hN.ref.put (i:=8) ω (.slice Al A1 cp) { d with Al:= .slice Al A1 cp } (fR rfl rfl rfl rfl rfl rfl rfl rfl rfl rfl rfl rfl rfl) rfl;have y9:=Dp.cell.frozen' (i:=9) ω;have x9:=Dp.cell.cell (i:=9) ω;have ZC:=Dp.put (i:=9) ω (.slice (dr Al cp A1) (n-A1) (cp-A1)) { d with Al:= .slice Al A1 cp,Ad:= .slice (dr Al cp A1) (n-A1) (cp-A1) } (fR rfl rfl rfl rfl rfl rfl rfl rfl rfl rfl rfl rfl rfl) rfl;have Qu:ak Al≠some g:=λe=>by have:=(hN.row g e).1;rw[hN.ref.cg]at this;exact absurd this δ
      obtain⟨w9,ac⟩ :=ν ((wr.setCell ⟨g,8,none⟩ (.slice Al A1 cp)).setCell ⟨g,9,none⟩ (.slice (dr Al cp A1) (n-A1) (cp-A1)));have Vq:ba .i64 w9 w.heap.size 3 Al n cp b.lens:=by rw[<-ac];exact(hN.own.far (p:= ⟨g,8,none⟩) Qu _).far (p:= ⟨g,9,none⟩) Qu _
      have cB:bk wr w9 (λk=>c2 k≠0):=by
       rw[<-ac];exact((bk.refl wr (λk=>c2 k≠0)).setCell (p:= ⟨g,8,none⟩) (.inl (by rw[hN.ref.cg];decide)) _).setCell (p:= ⟨g,9,none⟩) (.inl (by rw[hN.ref.cg];decide)) _
      have CA:DE b0 w c w9 c2:=hN.de.step hN.ref.lo (λk y=>(hN.ref.cb k y).1) cB (λ_ _=>rfl);rw[ac]at ZC;have bt:=η ac;obtain⟨E1,ch⟩ :=ν (bg (b.lens.take b.c0) 15);obtain⟨E2,ce⟩ :=ν (bg (b.lens.drop b.c0) 15);have rV:bT .i64 w9 w9.heap.size Al A1 (b.lens.take b.c0):=by rw[Iy.1];exact Vq.rd.pre ω
      have pd:bT .i64 w9 w9.heap.size (dr Al cp A1) (n-A1) (b.lens.drop b.c0):=by rw[Iy.1];exact Vq.rd.dr ω fI
      have Zs:=uT Al A1 cp _ (b.lens.take b.c0) 15 w9 rV ω;have ci:=uT (dr Al cp A1) (n-A1) (cp-A1) _ (b.lens.drop b.c0) 15 w9 pd ω;rw[ch]at Zs;rw[ce]at ci;have Ev:=η Zs;have yf:=η ci;obtain⟨ad,an,en,KI⟩ :=rV.at_ (i:=256) ω;obtain⟨x,hx⟩ :=ν (ix b.lens 256)
      have a5r:w9.cell? ⟨ad.block,ad.off+256,none⟩ =some (.int .i64 x):=by
       have e:ix (b.lens.take b.c0) 256=x:=by rw[<-hx];unfold ix;rw[aq,aq,fN,af ω]
       rw[<-e,<-GY ad (k:=256) ω];exact KI
      have k8:=ZC.cell.cell (i:=8) ω;rw[show sF { d with Al:= .slice Al A1 cp,Ad:= .slice (dr Al cp A1) (n-A1) (cp-A1) } 8= .slice Al A1 cp from rfl,an]at k8;have k9:=ZC.cell.cell (i:=9) ω;rw[show sF { d with Al:= .slice Al A1 cp,Ad:= .slice (dr Al cp A1) (n-A1) (cp-A1) } 9= .slice (dr Al cp A1) (n-A1) (cp-A1) from rfl]at k9;have k1:=ZC.cell.cell (i:=1) ω;have y1:=ZC.cell.frozen' (i:=1) ω;have gn:=η an;have kz:=η bv.out;rw[ch,ce,hx]at kz;have jO:Hid (bV w c (w9.setCell ⟨g,1,none⟩ (.int .i64 3)) b0 g { d with Al:= .slice Al A1 cp,Ad:= .slice (dr Al cp A1) (n-A1) (cp-A1),E:=3 }):=bV.fo ZC CA (ZC.refl.put (i:=1) ω (.int .i64 3) { d with Al:= .slice Al A1 cp,Ad:= .slice (dr Al cp A1) (n-A1) (cp-A1),E:=3 } (fR rfl rfl rfl rfl rfl rfl rfl rfl rfl rfl rfl rfl rfl) rfl)
      have dq:0<n-A1->∀ad,dr Al cp A1=some ad->c2 ad.block=0:=λ_ xm e=>by
       have r:xm.block=(Al.getD ⟨0,0,none⟩).block/\Al.isSome:=by
        unfold dr at e;rw[an]at e⊢;split at e <;> (injection e with e;subst e)
        all_goals first
         | exact⟨rfl,rfl⟩
         | exact⟨bG _ _,rfl⟩
       rw[r.1];refine(hN.row _ ?_).1;rw[an];rfl
      have kN:Hid (¬(E1≠0\/E2≠0\/x=0)->iO w b0 g c R s (.returned (.bool true)) w9):=λhg=>by
       have v:=kz.out.trans (aa hg);have J:=hO.step (.inl (by rw[v]));have I:=IS.Steps.tail F (by rw[v]);rw[v]at J I;have cq:=λq hq=>(hN.row q hq).1;exact .inl ⟨_,_,c2,Al,A1,cp,dr Al cp A1,n-A1,cp-A1,rfl,ZC,CA,I,rfl,J, ⟨a.x,a.le,a.out,a.kinds,a.stops,a.au,a.most,a.E,a.bit,a.len,a.even,a.small,a.tk⟩,rfl,rfl,rV,pd,λ_ xm e=>cq _ (by rw[e];rfl),dq, ⟨G.X,G.kinds,G.stops,G.le⟩⟩
      have fn:(256:Int)<(A1:Int):=ω;clear ac ch ce hx an KI f bv Vq cB CA ZC Dp rV pd Zs ci du Iy q1 q2 q3 q4 lG uD fz QK LI cw fI;by_cases hg:E1≠0\/E2≠0\/x=0
      rotate_left
      · have HG:=η (kN.out hg);have r:E1=0:=bN.1 λh=>hg (.inl h);have U:E2=0:=bN.1 λh=>hg (.inr (.inl h));have h3:¬x=0:=λh=>hg (.inr (.inr h));have ga:(x==0)=false:=by simpa using h3
        clear hg kN kz;subst r U
        go_wp2_with fail;rw[bt.out];refine Ev.out.mono ?_;rintro e Gi ⟨rfl,rfl⟩
        go_wp2_with fail;refine yf.out.mono ?_;rintro e OP ⟨rfl,rfl⟩
        go_wp2_with fail;go_ret;exact HG.out
      have v:=η (kz.out.trans (af hg));have cc:E1≠0\/(E1=0/\E2≠0)\/(E1=0/\E2=0/\x=0):=ω;clear hg kN kz;rcases cc with r | ⟨r,U⟩ | ⟨r,U,h3⟩
      · have Si:(E1==0)=false:=by simpa using r
        go_wp2_with fail;rw[bt.out];refine Ev.out.mono ?_;rintro e Gi ⟨rfl,rfl⟩
        go_wp2_with fail;go_ret;exact iO.bad F v.out δ δ jO.out ⟨a.out,a.kinds,a.stops,a.au,rfl⟩
      · have gb:(E2==0)=false:=by simpa using U
        subst r
        go_wp2_with fail;rw[bt.out];refine Ev.out.mono ?_;rintro e Gi ⟨rfl,rfl⟩
        go_wp2_with fail;refine yf.out.mono ?_;rintro e OP ⟨rfl,rfl⟩
        go_wp2_with fail;go_ret;exact iO.bad F v.out δ δ jO.out ⟨a.out,a.kinds,a.stops,a.au,rfl⟩
      subst r U h3
      go_wp2_with fail;rw[bt.out];refine Ev.out.mono ?_;rintro e Gi ⟨rfl,rfl⟩
      go_wp2_with fail;refine yf.out.mono ?_;rintro e OP ⟨rfl,rfl⟩
      go_wp2_with fail;go_ret;exact iO.bad F v.out δ δ jO.out ⟨a.out,a.kinds,a.stops,a.au,rfl⟩
    have xL:Hid (b.step=b.length):=J1 f ω;unfold IS.length at xL;obtain⟨K,hK⟩ :=ν ((aK b.hd b.x).1);obtain⟨N,Dq⟩ :=ν ((aK b.hd b.x).2.1);obtain⟨E,hE⟩ :=ν ((aK b.hd b.x).2.2);have gY:Hid (E=0\/E=3\/E=5):=by have:=eU b.hd b.x;rw[hE]at this;exact this
    have oM:Hid (E=0->0<=K/\K<19/\N<=b.x.length):=λh=>by
     obtain⟨k2,n2,e1,e2,e3,e4,e5⟩ :=mi (l:=b.hd) (x:=b.x) hO.bit (by rw[hE,h];simp);rw[e1]at hK Dq;simp at hK Dq;omega
    have cs:aK b.hd b.x=(K,N,E):=by rw[<-hK,<-Dq,<-hE]
    rw[hK,Dq,hE]at xL;have QG:=BG hN.ref.refl (some ⟨go+1,0,none⟩) (some ⟨gc,0,none⟩) 19 19 19 (iK z) hN.rH hN.rC ω lG ω a.bit LI K N E (by rw[a.x,<-Iy.2.2];exact cs);have P6:=η QG;clear hK Dq hE cs QG lG uD fz f q1 q2 q3 q4 Iy LI cw;by_cases nS:E=0
    rotate_left
    · have hs3:=η (xL.out.trans (af nS))
      have sN:Calls Tryz.prog 72 #[.pointer (some ⟨g,0,none⟩), .slice (some ⟨go+1,0,none⟩) 19 19, .slice (some ⟨gc,0,none⟩) 19 19] wr λe w'=>e= .returned (.tuple #[.int .i64 0, .bool false])/\bV wr c2 w' b0 g { d with E:=E }:=by
       refine P6.out.mono ?_;rintro e w' (⟨r, -⟩ | ⟨-,r,U⟩)
       · exact absurd r nS
       exact⟨r,U⟩
      have Ks:=η sN;have h8:E≠8:=by rcases gY.out with e | e | e <;> omega
      have Gr:=η nS;have fi:=η h8;clear xL oM gY P6 sN nS h8 QK
      go_wp2_with fail;refine Ks.out.mono ?_;rintro e H ⟨rfl,h6⟩
      go_wp2_with fail;go_ret;exact iO.bad F hs3.out Gr.out fi.out (bV.fo hN.ref hN.de h6) ⟨a.out,a.kinds,a.stops,a.au,rfl⟩
    subst nS;obtain⟨Ih,ZB,ge⟩ :=oM.out rfl;have jl:=η (xL.out.trans (aa δ));have D:Hid (d.X.drop (d.at_+N)=b.x.drop N):=by show _=_;rw[<-a.x,bn]
    have pD:Hid (d.at_+N<=d.X.length):=by show _<=_;have:=a.le;omega
    have sN:Calls Tryz.prog 72 #[.pointer (some ⟨g,0,none⟩), .slice (some ⟨go+1,0,none⟩) 19 19, .slice (some ⟨gc,0,none⟩) 19 19] wr λe w'=>e= .returned (.tuple #[.int .i64 K, .bool true])/\bV wr c2 w' b0 g { d with at_:=d.at_+N }:=by
     refine P6.out.mono ?_;rintro e w' (⟨-,r,U⟩ | ⟨r, -⟩)
     · exact⟨r,U⟩
     exact absurd rfl r
    have Ks:=η sN;have o:og { d with at_:=d.at_+N } { b with x:=b.x.drop N }:= ⟨D.out,pD.out,a.out,a.kinds,a.stops,a.au,a.most,a.E,a.bit,a.len,a.even,a.small,aw a.tk (by show d.at_<=d.at_+N;omega)⟩;have dA:EA R { d with at_:=d.at_+N }:= ⟨G.X,G.kinds,G.stops,aw G.le (by show d.at_<=d.at_+N;omega)⟩;clear xL oM gY P6 sN QK
    go_wp2_with fail;refine Ks.out.mono ?_;rintro e H ⟨rfl,h6⟩;obtain⟨c6,L⟩ :=hN.turn h6;clear h6;by_cases F0:K<16
    · have v:=η (jl.out.trans (af F0));have jb:=L.own.alloc (.cells #[.int .i64 K] 3);have nj:=L.de.2.1.size;have bB:Hid (b.step.1.mu<b.mu):=IS.jK (by rw[v.out]);clear jl
      go_wp2_with (at_builtin;(refine bq .i64 w.heap.size 3 i0 8 rfl (.tmp 124) (.tmp 126) _ rfl Tryz.underlying63 Hi.out i7.out gp.out i9.out rfl jb rfl (bT.lit .i64 H [K] 3) ω ω ξ ?_)
                   intro A4 d4 w4 bL ca dT)
      have Y2:=L.push uC K ca bL dT;go_roundg b.step.1.mu
      case measure=>have:=y.out;have:=bB.out;omega
      have J:=hO.step (.inl (by rw[v.out]));have I:=IS.Steps.tail F (by rw[v.out]);rw[v.out]at J I⊢;exact⟨_,_,c6,A4,n+1,d4,rfl,Y2,I, ⟨o.x,o.le,o.out,o.kinds,o.stops,o.au,o.most,o.E,o.bit,o.len,o.even,o.small,o.tk⟩,J,da.out,rfl,Lz.out,dA⟩
    have kz:=η (jl.out.trans (aa F0));have bI:K=16\/K=17\/K=18:=ω;clear jl;obtain⟨Bd,K7⟩ :=ν (decide (K=16/\b.lens.length=0));have oP:=η K7;clear K7;go_upto_region 35 with fail
    go_cut [134] (λs wx=>s= .bool Bd/\wx=H)
    case first=>
     by_cases Z:K=16
     · by_cases sJ:n=0
       · have hd:Hid (true=Bd):=by show _=_;rw[<-oP.out];exact(aS ⟨Z,by rw[<-uo.out];exact sJ⟩).symm
         clear oP;subst Z sJ
         go_wp2_with fail;go_meet;exact⟨aN Value.bool hd.out,rfl⟩
       have hd:Hid (false=Bd):=by show _=_;rw[<-oP.out];exact(aQ λh=>sJ (by rw[uo.out];exact h.2)).symm
       have Sr:((n:Int)==0)=false:=ξ;clear sJ oP;subst Z
       go_wp2_with fail;go_meet;exact⟨aN Value.bool hd.out,rfl⟩
     have hd:Hid (false=Bd):=by show _=_;rw[<-oP.out];exact(aQ λh=>Z h.1).symm
     have ea:(K==16)=false:=by simpa using Z
     clear Z oP
     go_wp2_with fail;go_meet;exact⟨aN Value.bool hd.out,rfl⟩
    rename World=>wc
    obtain⟨rfl,rfl⟩ :=hcut;by_cases oy:K=16/\b.lens.length=0
    · have v:=η (kz.out.trans (af oy));rw[<-oP.out,aS oy];have x1:=L.ref.cell.cell (i:=1) ω;have y1:=L.ref.cell.frozen' (i:=1) ω;have h7:=bV.fo L.ref L.de (L.ref.refl.put (i:=1) ω (.int .i64 2) { d with at_:=d.at_+N,E:=2 } (fR rfl rfl rfl rfl rfl rfl rfl rfl rfl rfl rfl rfl rfl) rfl);clear oy kz bI F0
      go_wp2_with fail;go_ret;exact iO.bad F v.out δ δ h7 ⟨a.out,a.kinds,a.stops,a.au,rfl⟩
    have l7:=η (kz.out.trans (aa oy));rw[<-oP.out,aQ oy];have vY:K=16->0<n:=λh=>by have:=uo.out;omega
    clear kz oy oP;obtain⟨W,hW⟩ :=ν (IS.rW K);obtain⟨Bs,XY⟩ :=ν (IS.rB K);have cJ:W<=7/\Bs<=11:=by rw[<-hW,<-XY];rcases bI with rfl | rfl | rfl <;> decide
    have Gv:=η (And.intro hW XY);rw[hW]at l7;clear hW XY;obtain⟨W1,bs⟩ :=ν ((if K=17 then 3 else 2):Nat)
    have P8:Hid ((K=17->W1=3/\W=3/\Bs=3)/\(K=18->W=7/\Bs=11)/\(K=16->W1=2/\W=2/\Bs=3)):=by
     refine⟨λh=> ?_,λh=> ?_,λh=> ?_⟩
     · subst h;rw[<-bs,<-Gv.out.1,<-Gv.out.2];exact⟨rfl,rfl,rfl⟩
     · subst h;rw[<-Gv.out.1,<-Gv.out.2];exact⟨rfl,rfl⟩
     subst h;rw[<-bs,<-Gv.out.1,<-Gv.out.2];exact⟨rfl,rfl,rfl⟩
    have P9:Hid (K≠17->W1=2):=λh=>by rw[<-bs,aa h]
    clear bs
    go_upto_if 139 with fail
    go_cut [19] (λbx wx=>bx= .int .i64 W1/\wx=wc)
    case first=>
     by_cases ao:K=17
     · have hf:Hid (Value.int .i64 3=Value.int .i64 (W1:Int)):=by show _=_;rw[(P8.out.1 ao).1];rfl
       clear P8 P9 Gv;subst ao
       go_wp2_with fail;go_meet;exact⟨hf.out,rfl⟩
     have hf:Hid (Value.int .i64 2=Value.int .i64 (W1:Int)):=by show _=_;rw[P9.out ao];rfl
     have gi:(K==17)=false:=by simpa using ao
     clear P8 P9 Gv ao
     go_wp2_with fail;go_meet;exact⟨hf.out,rfl⟩
    obtain⟨rfl,rfl⟩ :=hcut
    go_upto_if 141 with fail
    go_cut [19,20] (λbx dk wx=>bx= .int .i64 W/\dk= .int .i64 Bs/\wx=wc)
    case first=>
     by_cases Y:K=18
     · have hf:Hid (Value.int .i64 7=Value.int .i64 (W:Int)/\Value.int .i64 11=Value.int .i64 (Bs:Int)):=by show _/\_;rw[(P8.out.2.1 Y).1,(P8.out.2.1 Y).2];exact⟨rfl,rfl⟩
       clear P8 P9 Gv;subst Y
       go_wp2_with fail;go_meet;exact⟨hf.out.1,hf.out.2,rfl⟩
     have hf:Hid (Value.int .i64 (W1:Int)=Value.int .i64 (W:Int)/\Value.int .i64 3=Value.int .i64 (Bs:Int)):=by
      show _/\_;rcases bI with h | h | h
      · obtain⟨a1,a2,a3⟩ :=P8.out.2.2 h;rw[a1,a2,a3];exact⟨rfl,rfl⟩
      · obtain⟨a1,a2,a3⟩ :=P8.out.1 h;rw[a1,a2,a3];exact⟨rfl,rfl⟩
      exact absurd h Y
     have gh:(K==18)=false:=by simpa using Y
     clear P8 P9 Gv Y
     go_wp2_with fail;go_meet;exact⟨hf.out.1,hf.out.2,rfl⟩
    obtain⟨rfl,rfl,rfl⟩ :=hcut;have co:(b.x.drop N).length=d.X.length-(d.at_+N):=by rw[<-D.out,az]
    have cv:=a.len;by_cases ah:(b.x.drop N).length<W
    · have v:=η (l7.out.trans (af ah));have ht:=η (oa L.ref.refl W ω (by show d.X.length<=_;omega) pD.out (by show d.X.length<d.at_+N+W;omega));clear ah co l7 cv vY
      go_wp2_with fail;refine ht.out.mono ?_;rintro e w7 ⟨rfl,h7⟩
      go_wp2_with fail;go_ret;exact iO.bad F v.out δ δ (bV.fo L.ref L.de h7) ⟨a.out,a.kinds,a.stops,a.au,rfl⟩
    have jX:=η (l7.out.trans (aa ah));unfold IS.kG at jX;have VP:=gI (hO.bit.ed N) W;have Yd:2 ^ W<=2 ^ 7:=bC ω cJ.1;obtain⟨V,hV⟩ :=ν (num (b.x.drop N) W);have ht:=η (jZ L.ref.refl W ω (by show d.X.length<=_;omega) a.bit (by show d.at_+N+W<=d.X.length;have:=pD.out;omega) (V:Int) (by show _=((num (d.X.drop (d.at_+N)) W:Nat):Int);rw[D.out,hV]));rw[hV]at VP;obtain⟨T,hT⟩ :=ν (Bs+V);obtain⟨KK,cd⟩ :=ν ((if K=16 then ix b.lens (b.lens.length-1)else 0):Int);rw[Gv.out.1,Gv.out.2,hV,hT,cd]at jX;have eu:(Bs:Int)+(V:Int)=(T:Int):=ω;have gd:(0:Int)<=T/\(T:Int)<=200/\(0:Int)<=V/\(V:Int)<=128/\(0:Int)<=Bs/\(Bs:Int)<=11:=ω;have dp:Hid (d.X.drop (d.at_+N+W)=(b.x.drop N).drop W):=by show _=_;rw[<-D.out,bn]
    have dT:Hid (d.at_+N+W<=d.X.length):=by show _<=_;have:=pD.out;omega
    have Ch:=η cd;clear ah co l7 cv VP Yd hV hT cd cJ Gv P8 P9
    go_wp2_with fail;refine ht.out.mono ?_;rintro e w7 ⟨rfl,h7⟩;obtain⟨c7,Y2⟩ :=L.turn h7;clear h7 L
    go_upto_if 154 with fail
    go_cut [23] (λdj wx=>dj= .int .i64 KK/\wx=w7)
    case first=>
     by_cases Z:K=16
     · obtain⟨m,hm⟩ :∃m,n=m+1:= ⟨n-1,τ (vY Z)⟩;subst hm;obtain⟨ad,rfl,en,c1⟩ :=Y2.own.rd.at_ (i:=m) ω;have cz:Hid (ix b.lens m=KK):=by show _=_;rw[<-Ch.out,af Z,<-uo.out];rfl
       rw[cz.out]at c1;have Fj:(0:Int)<=m/\(m:Int)<=400:=ω;clear Ch vY cz;subst Z
       go_wp2_with fail;go_meet;exact⟨rfl,rfl⟩
     have ea:(K==16)=false:=by simpa using Z
     have hz:Hid (Value.int .i64 0=Value.int .i64 KK):=by show _=_;rw[<-Ch.out,aa Z]
     clear Ch vY Z
     go_wp2_with fail;go_meet;exact⟨hz.out,rfl⟩
    obtain⟨rfl,rfl⟩ :=hcut;clear vY Ch eu;by_cases lF:(A1:Int)+(O:Int)<(n:Int)+(T:Int)
    · have v:=η (jX.out.trans (af (by have r:=Lz.out.1;have U:=Lz.out.2.1;have h3:=uo.out;omega)));have x1:=Y2.ref.cell.cell (i:=1) ω;have y1:=Y2.ref.cell.frozen' (i:=1) ω;have h8:=bV.fo Y2.ref Y2.de (Y2.ref.refl.put (i:=1) ω (.int .i64 2) { d with at_:=d.at_+N+W,E:=2 } (fR rfl rfl rfl rfl rfl rfl rfl rfl rfl rfl rfl rfl rfl) rfl);clear jX
      go_wp2_with fail;go_ret;exact iO.bad F v.out δ δ h8 ⟨a.out,a.kinds,a.stops,a.au,rfl⟩
    have v:=η (jX.out.trans (aa (by have r:=Lz.out.1;have U:=Lz.out.2.1;have h3:=uo.out;omega)));clear jX;have cA:Hid (RpR w b0 g c (go+1) gc (iK z) { d with at_:=d.at_+N+W } b.lens KK T c7 T (.slice Al n cp) (.int .i64 0) wc):= ⟨0,Al,n,cp,aF _,rfl,rfl,rfl,by rw[List.replicate_zero,aA];exact Y2⟩;clear Y2
    go_wp2_with fail;go_loopg [16,24] T (RpR w b0 g c (go+1) gc (iK z) { d with at_:=d.at_+N+W } b.lens KK T c7)
    case atStart=>exact cA.out
    clear cA;obtain⟨jj,A3,n3,fa,fv,cx,rfl,rfl,am⟩ :=hrel;by_cases fy:(jj:Int)<(T:Int)
    · have zz:n3=(b.lens++List.replicate jj KK).length:=am.own.1;rw[ag,aT,<-uo.out]at zz;have dz:n3+1<=1000000000000:=ω;have jb:=am.own.alloc (.cells #[.int .i64 KK] 3);have uB:=am.de.2.1.size;clear zz
      go_wp2_with (at_builtin;(refine bq .i64 w.heap.size 3 i0 8 rfl (.tmp 177) (.tmp 179) _ rfl Tryz.underlying63 Hi.out i7.out gp.out i9.out rfl jb rfl (bT.lit .i64 wr [KK] 3) dz ω ξ ?_)
                   intro A4 d4 w4 bL ca jD)
      have ev:=am.push uC KK ca bL jD;go_roundg (gk-1)
      case measure=>have:=cx.out;omega
      case rel=>exact⟨jj+1,A4,n3+1,d4,ω,by show gk-1=_;have:=cx.out;omega,by go_num,rfl,by rw[List.replicate_succ',<-av];exact ev⟩
    obtain rfl:jj=T:=ω;have bB:Hid (b.step.1.mu<b.mu):=IS.jK (by rw[v.out])
    go_wp2_with fail;go_roundg b.step.1.mu
    case measure=>have:=y.out;have:=bB.out;omega
    have J:=hO.step (.inl (by rw[v.out]));have I:=IS.Steps.tail F (by rw[v.out]);rw[v.out]at J I⊢;exact⟨{ d with at_:=d.at_+N+W },_,c7,A3,n3,fa,rfl,am,I, ⟨dp.out,dT.out,a.out,a.kinds,a.stops,a.au,a.most,a.E,a.bit,a.len,a.even,a.small,aw a.tk (by show d.at_<=d.at_+N+W;omega)⟩,J,da.out,rfl,Lz.out, ⟨G.X,G.kinds,G.stops,aw G.le (by show d.at_<=d.at_+N+W;omega)⟩⟩
  have hs3:=η (Qd.out (.inr Cn));rw[tV]at ab;clear tV Cn Qd LO
  go_wp2_with fail;refine ab.out.mono ?_;rintro e H ⟨rfl,rfl⟩
  go_wp2_with fail;go_ret;exact iO.bad F hs3.out δ δ UO.out ⟨a.out,a.kinds,a.stops,a.au,rfl⟩
end
end Go.Proofs.YtdhmnlpfhfmpfaaGreat
