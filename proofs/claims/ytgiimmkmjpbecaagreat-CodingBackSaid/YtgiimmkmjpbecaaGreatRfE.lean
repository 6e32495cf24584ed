/-
  part
-/
import Derived.Test.YtgiimmkmjpbecaaGreatArr
import Derived.Test.YtgiimmkmjpbecaaGreatPk38
namespace Go.Proofs.YtgiimmkmjpbecaaGreat
open Go.RowKit
set_option linter.unusedVariables false
set_option maxRecDepth 100000
set_option maxHeartbeats 8000000
section
variable {w w' w0 w2 wr w5:World} {b0 g:Nat} {c c0 c':Nat->Nat} {R R' R1:RM} {s t t':IS} {v:Int}
theorem a6G (x:ag) (h:dH x) (f:14<=x.length):num x 14%32=num x 5/\num x 14/32%32=num (x.drop 5) 5/\num x 14/1024=num (x.drop 10) 4:=by
 have b:=(xu x h 5 9).resolve_right ω;have a:=(xu (x.drop 5) (h.dU 5) 5 4).resolve_right (by rw[ay];omega);rw[bj]at a;have b:num x 14=num x 5+2 ^ 5*num (x.drop 5) 9:=b;have a:num (x.drop 5) 9=num (x.drop 5) 5+2 ^ 5*num (x.drop 10) 4:=a;have d:=gF h 5;have c:=gF (h.dU 5) 5;have e:(2:Nat) ^ 5=32:=δ;rw[e]at b a d c;refine⟨?_, ?_, ?_⟩ <;> omega
theorem DE.own (hd:DE b0 w0 c0 w c) (b:bb w w' (λk=>w0.heap.size<=k)) (d:b0<=w0.heap.size):DE b0 w0 c0 w' c:=
 ⟨hd.1.trans (b.below (b0:=b0) (λk a=>aq d a) (aq d hd.2.1.size)),hd.2.1.trans b (λk a=> .inr a),hd.2.2⟩
def iM (w:World) (b0 g:Nat) (c:Nat->Nat) (R:RM) (s:IS) (e:Ending) (w':World):Prop:=
 (∃R' t c' Al nl cl Ad b d,e= .returned (.bool true)/\ig w' b0 g c' R'/\DE b0 w c w' c'/\IS.Steps s t/\t.st=6/\t.Ok/\nV R' t/\R'.Al= .slice Al nl cl/\R'.Ad= .slice Ad b d/\bT .i64 w' w'.heap.size Al nl t.lt/\bT .i64 w' w'.heap.size Ad b t.ds/\(0<nl->∀a,Al=some a->c' a.block=0)/\(0<b->∀a,Ad=some a->c' a.block=0)/\ET R R')\/
 (∃R' t v,e= .returned (.bool false)/\bU w c w' b0 g R'/\s.fin=(t,v)/\v≠8/\L9 R' t v)
theorem iM.bad (a:IS.Steps s t) (h:t.step=(t',v)) (e:v≠0) (d:v≠8) (b:bU w c w' b0 g R') (hE:L9 R' t' v):iM w b0 g c R s (.returned (.bool false)) w':=
 .inr ⟨R',t',v,rfl,b,by rw[<-a.lM,IS.gZ (by rw[h];exact e),h],d,hE⟩
def HdR (w:World) (b0 g:Nat) (c:Nat->Nat) (R:RM) (s:IS) (A B C:Nat) (d go:Nat) (k:Nat) (b a:Value) (wr:World):Prop:=
 ∃j R' t c',j<=C/\Hid (k=C-j)/\a= .int .i64 j/\b= .bool (!gS t.lens)/\ig wr b0 g c' R'/\DE b0 w c wr c'/\c' d=0/\c' go=0/\IS.Steps s t/\nV R' t/\t.Ok/\t.st=4/\Hid (t.lens.length=j)/\Hid (t.c0=A/\t.c1=B/\t.c2=C)/\Ar wr d 19 (hF t.lens j)/\Ar wr go 19 (λp=> .int .i64 (l8.getD p 0:Nat))/\ET R R'
structure YO (w:World) (b0 g:Nat) (c:Nat->Nat) (gh gc:Nat) (H:ag) (R:RM) (Al:ax) (n cp:Nat) (l:ag) (wr:World) (c':Nat->Nat):Prop where
 own:aT .i64 wr w.heap.size 3 Al n cp l
 ref:ig wr b0 g c' R
 de:DE b0 w c wr c'
 cgh:c' gh=0
 cgc:c' gc=0
 row:∀q,ai Al=some q->c' q=0/\q≠gh/\q≠gc
 rH:bT .i64 wr wr.heap.size (some ⟨gh,0,none⟩) 19 H
 rC:bT .u32 wr wr.heap.size (some ⟨gc,0,none⟩) 19 (jo H)
 lh:gh<wr.heap.size
 lc:gc<wr.heap.size
theorem YO.push {p r:Nat} {H l:ag} {Al i:ax} {n cp o d4:Nat} {f:World} (h:YO w b0 g c p r H R Al n cp l wr c') (u:b0<=w.heap.size) (v:Int) (j:(wr.alloc (.cells #[.int .i64 v] 3)).grownBy f (ai Al)) (s:aT .i64 f w.heap.size 3 i o d4 (l++[v])) (k:ai i=ai Al\/ai i=some (wr.alloc (.cells #[.int .i64 v] 3)).heap.size):
  YO w b0 g c p r H R i o d4 (l++[v]) f c':=by
 have d:bb wr f (λq=>ai Al=some q):=((bb.refl wr (λq=>ai Al=some q)).alloc _).grown j (λq e=> .inl e);have t:∀q,ai Al=some q->w.heap.size<=q:=λq b=>(h.own.2.lt b).1;have a:=d.size;refine⟨s,h.ref.aside d (λq b=>(h.row q b).1),h.de.own (d.more t) u,h.cgh,h.cgc,λq b=> ?_,(d.rp h.rH (af _) (λ_ x e m=> ?_)).more a,(d.rp h.rC (af _) (λ_ x e m=> ?_)).more a,aB h.lh a,aB h.lc a⟩
 · rcases k with e | e
   · exact h.row q (by rw[<-e];exact b)
   rw[e]at b;injection b with b;simp at b;have z:=h.lh;have y:=h.lc;refine⟨?_,ω,ω⟩;by_cases e:c' q=0
   · exact e
   have:=(h.ref.cb q e).2;omega
 · injection e with e;subst e;exact(h.row _ m).2.1 rfl
 injection e with e;subst e;exact(h.row _ m).2.2 rfl
theorem YO.turn {m o:Nat} {H l:ag} {Al:ax} {n cp:Nat} (h:YO w b0 g c m o H R Al n cp l wr c') (p:bU wr c' w' b0 g R'):∃j,YO w b0 g c m o H R' Al n cp l w' j:=by
 obtain⟨j,s,f⟩ :=p;have d:=f.2.1;have a:=d.size;refine⟨j,d.dJ h.own (λq b e=>e (h.row q b).1),s,h.de.step h.ref.lo (λk r=>(h.ref.cb k r).1) d f.2.2,(f.2.2 _ h.lh).trans h.cgh,(f.2.2 _ h.lc).trans h.cgc,λq b=> ⟨(f.2.2 _ (h.own.2.lt b).2).trans (h.row q b).1,(h.row q b).2⟩,(d.rp h.rH (af _) (λ_ t e i=> ?_)).more a,(d.rp h.rC (af _) (λ_ t e i=> ?_)).more a,aB h.lh a,aB h.lc a⟩
 · injection e with e;subst e;exact i h.cgh
 injection e with e;subst e;exact i h.cgc
def LnR (w:World) (b0 g:Nat) (c:Nat->Nat) (R:RM) (s:IS) (A B:Nat) (b d:Nat) (H:ag) (k:Nat) (a:Value) (wr:World):Prop:=
 ∃R' t c' Al n cp,a= .slice Al n cp/\YO w b0 g c b d H R' Al n cp t.lens wr c'/\IS.Steps s t/\nV R' t/\t.Ok/\t.st=5/\Hid (k=t.mu)/\Hid (t.c0=A/\t.c1=B/\t.hd=H)/\ET R R'
def RpR (w:World) (b0 g:Nat) (c:Nat->Nat) (d e:Nat) (H:ag) (R1:RM) (l:ag) (K:Int) (N:Nat) (c':Nat->Nat) (k:Nat) (b a:Value) (wr:World):Prop:=
 ∃j A n cp,j<=N/\Hid (k=N-j)/\a= .int .i64 j/\b= .slice A n cp/\YO w b0 g c d e H R1 A n cp (l++List.replicate j K) wr c'
theorem Zx {l:ag} {j:Nat} (c:j<19) (b:l.length=j) (V:Int):∀q,q<19->upd (hF l j) (l8.getD j 0) (.int .i64 V) q=hF (l++[V]) (j+1) q:=λq a=>by
 have h:=OJ (l:=l++[V]) (i:=j) c a;have e:ix (l++[V]) j=V:=by rw[dy,a8 ω,b,dL];rfl
 rw[e]at h;rw[<-h];by_cases hp:q=l8.getD j 0
 · rw[hp,upd_same,upd_same]
 rw[dA _ _ hp,dA _ _ hp];unfold hF;by_cases hi:l8.idxOf q<j
 · rw[aa hi,aa hi,dy,aa ω]
 rw[a8 hi,a8 hi]
theorem N5 (l:ag) (V:Int):gS (l++[V])=(gS l&&(V==0)):=by simp [gS]
theorem ND (h:t.step.2=5):t.step=(t,5):=Prod.ext (IS.Ep h) h
def RG (w:World):World:=(w.alloc (.cells (([16,17,18,0,8,7,9,6,10,5,11,4,12,3,13,2,14,1,15]:ag).map (Value.int .i64)).toArray 3)).alloc (.cells (eB 19 (.int .i64 0)) 3)
theorem Nc (w:World) (l:ag):Below w.heap.size w (RG w)/\Ar (RG w) w.heap.size 19 (λp=> .int .i64 (l8.getD p 0:Nat))/\Ar (RG w) (w.heap.size+1) 19 (hF l 0):=by
 refine⟨((aw _ w).alloc (af _) _).alloc σ _, ?_, ?_⟩
 · refine(Ar.new (m:=19) (f:=λp=> .int .i64 (l8.getD p 0:Nat)) w _ 3 rfl (λi hi=> ?_)).alloc _;obtain rfl | rfl | rfl | rfl | rfl | rfl | rfl | rfl | rfl | rfl | rfl | rfl | rfl | rfl | rfl | rfl | rfl | rfl | rfl:i=0\/i=1\/i=2\/i=3\/i=4\/i=5\/i=6\/i=7\/i=8\/i=9\/i=10\/i=11\/i=12\/i=13\/i=14\/i=15\/i=16\/i=17\/i=18:=ω;all_goals rfl
 have a:=(Ar.zeros (w.alloc (.cells (([16,17,18,0,8,7,9,6,10,5,11,4,12,3,13,2,14,1,15]:ag).map (Value.int .i64)).toArray 3)) 19 (.int .i64 0) 3).congr (f':=hF l 0) λp _=>OL l p;rw[show(w.alloc (.cells (([16,17,18,0,8,7,9,6,10,5,11,4,12,3,13,2,14,1,15]:ag).map (Value.int .i64)).toArray 3)).heap.size=w.heap.size+1 by simp]at a;exact a
theorem Gh (h:ig w b0 g c R) (a:nV R s) (hO:s.Ok) (f:s.st=3):
  Calls Tryz.prog 53 #[.pointer (some ⟨g,0,none⟩)] w (iM w b0 g c R s):=by
 obtain⟨i0,hi,co,cm,cl⟩ :=aL mH;have Hi:=η hi;have gL:=η co;have fN:=η cm;have gM:=η cl;have fl:=a.len;have fs:=a.le;have u:Hid (s.step=s.sizes):=by show _=_;unfold IS.step;rw[a8 ω,a8 ω,a8 ω,aa f]
 unfold IS.sizes at u;have k1:=h.cell.az 1;have z1:=h.cell.aH 1;have k5:=h.cell.az 5;have k6:=h.cell.az 6;rw[show sF R 5= .slice R.Ab R.nb R.cb from rfl]at k5;rw[show sF R 6= .int .i64 (R.at_:Nat) from rfl]at k6;obtain⟨e,he⟩ :=ν (R.at_+14);have hw:IntKind.i64.wrap ((R.at_:Int)+14)=(e:Int):=by rw[aM _ ω];omega
 have pL:R.nb=R.X.length:=h.bits.1;have cv:s.x.length=R.X.length-R.at_:=by rw[<-a.x,ay]
 have hS:=h.refl;have gj:=η f;clear hi co cm cl;by_cases am:(R.nb:Int)<(e:Int)
 · have F:=η (u.trans (aa ω));have r:=hS.drew.put (i:=1) ω (.int .i64 5) { R with E:=5 } (fS rfl rfl rfl rfl rfl rfl rfl rfl rfl rfl rfl rfl rfl) rfl;clear he pL cv u f
   go_in
   go_wp2_with fail;go_region
   all_goals
    go_wp2_with fail;go_ret;exact iM.bad (.refl s) F.out δ δ r ⟨a.out,a.kinds,a.stops,a.aj,rfl⟩
 have Q:=η (u.trans (a8 ω));have sY:dH s.x:=hO.bit;obtain⟨n1,n2,n3⟩ :=a6G s.x sY ω;have l1:=gF sY 5;have l2:=gF (sY.dU 5) 5;have l3:=gF (sY.dU 10) 4;obtain⟨A,hA⟩ :=ν (num s.x 5);obtain⟨B,hB⟩ :=ν (num (s.x.drop 5) 5);obtain⟨C,hC⟩ :=ν (num (s.x.drop 10) 4);rw[n1,n2,n3,hA,hB,hC]at Q;have uR:=η (jX hS.drew 5 ω ω a.bit ω (A:Int) (by rw[a.x,hA]));have P7:=λW (hW:bU w c W b0 g { R with at_:=R.at_+5 })=>jX hW 5 ω (by show R.X.length<=_;omega) a.bit (by show R.at_+5+5<=R.X.length;omega) (B:Int) (by show _=((num (R.X.drop (R.at_+5)) 5:Nat):Int);rw[<-bj,a.x,hB]);have Rf:=λW (hW:bU w c W b0 g { R with at_:=R.at_+5+5 })=>jX hW 4 ω (by show R.X.length<=_;omega) a.bit (by show R.at_+5+5+4<=R.X.length;omega) (C:Int) (by show _=((num (R.X.drop (R.at_+5+5)) 4:Nat):Int);rw[dD,<-bj,a.x,hC]);have db:=η P7;have da:=η Rf;have e5:(2:Nat) ^ 5=32:=δ;have e4:(2:Nat) ^ 4=16:=δ;rw[hA,e5]at l1;rw[hB,e5]at l2;rw[hC,e4]at l3;obtain⟨A1,wB⟩ :=ν (A+257);obtain⟨O,Md⟩ :=ν (B+1);obtain⟨C1,Zu⟩ :=ν (C+4);rw[wB,Md,Zu]at Q;have fa:(A:Int)+257=(A1:Int):=ω;have eS:(B:Int)+1=(O:Int):=ω;have ey:(C:Int)+4=(C1:Int):=ω;have kA:(0:Int)<=A/\(A:Int)<32/\(0:Int)<=B/\(B:Int)<32/\(0:Int)<=C/\(C:Int)<16:=ω;have gf:(257:Int)<=A1/\(A1:Int)<=288/\(1:Int)<=O/\(O:Int)<=32/\(4:Int)<=C1/\(C1:Int)<=19:=ω;have dl:Hid (R.X.drop (R.at_+5+5+4)=s.x.drop 14):=by show _=_;rw[<-a.x,bj]
 have es:Hid (R.at_+5+5+4<=R.X.length):=by show _<=_;omega
 clear n1 n2 n3 hA hB hC e5 e4 wB Md Zu l1 l2 l3 he pL cv u f P7 Rf;by_cases kh:(286:Int)<A1\/(30:Int)<O
 · have ah:=η (Q.trans (aa ω));have cc:(286:Int)<A1\/(¬(286:Int)<A1/\(30:Int)<O):=ω;clear kh Q;rcases cc with r | ⟨r,U⟩
   all_goals
    go_in
    go_wp2_with fail;go_region
    all_goals
     go_wp2_with fail;refine uR.mono ?_;rintro e w3 ⟨rfl,h3⟩
     go_wp2_with fail;refine(db _ h3).mono ?_;rintro e w4 ⟨rfl,h4⟩
     go_wp2_with fail;refine(da _ h4).mono ?_;rintro e w5 ⟨rfl,h5⟩;have j1:=h5.cell.az 1;have y1:=h5.cell.aH 1;have h6:=h5.put (i:=1) ω (.int .i64 2) { R with at_:=R.at_+5+5+4,E:=2 } (fS rfl rfl rfl rfl rfl rfl rfl rfl rfl rfl rfl rfl rfl) rfl
     go_wp2_with fail;go_ret;exact iM.bad (.refl s) ah.out δ δ h6 ⟨a.out,a.kinds,a.stops,a.aj,rfl⟩
 have ah:=η (Q.trans (a8 ω));have r:¬(286:Int)<A1:=ω;have U:¬(30:Int)<O:=ω;clear kh Q;have oL:∀W,(Instr.makeSlice 80 (.int .i64 19) (.int .i64 19)).run Tryz.prog W= .ok (.slice (some ⟨W.heap.size,0,none⟩) 19 19) (W.alloc (.cells (eB 19 (.int .i64 0)) 3)):=λW=>fW (P:=Tryz.prog) 80 3 i0 (.int .i64 0) Tryz.underlying80 Hi.out gL.out fN.out rfl .i64 .i64 19 (by rw[gM.out];omega) ω W;have fd:=η oL;clear oL
 go_in
 go_wp2_with fail;go_region
 all_goals
  go_wp2_with fail;refine uR.mono ?_;rintro e w3 ⟨rfl,h3⟩
  go_wp2_with fail;refine(db _ h3).mono ?_;rintro e w4 ⟨rfl,h4⟩
  go_wp2_with fail;refine(da _ h4).mono ?_;rintro e w5 ⟨rfl,h5⟩;go_upto_region 13 with fail
  refine wp_region_list ?_;refine wpList_buildFlatAt rfl 80 3 19 _ rfl .i64 [16,17,18,0,8,7,9,6,10,5,11,4,12,3,13,2,14,1,15] _ rfl _ rfl Tryz.underlying80 (by kernel_rfl) (by kernel_rfl) rfl δ δ rfl ?_;have oL:=fd.out
  go_wp2_with fail
  change Code.wp _ _ _ _ (RG w5)
  have al:=Nc w5 [];obtain⟨go,an⟩ :=ν (w5.heap.size)
  have jz:Hid (HdR w b0 g c R s A1 O C1 (go+1) go C1 (.bool false) (.int .i64 0) (RG w5)):=by
   obtain⟨c5,yV,x7⟩ :=h5
   have bi:∀q,w5.heap.size<=q->c5 q=0:=λq hq=>by
    by_cases e:c5 q=0
    · exact e
    have:=(yV.cb q e).2;omega
   have vt:=hO.step (.inl (by rw[ah.out]));have cX:=IS.Steps.one (s:=s) (by rw[ah.out]);rw[ah.out]at vt cX;exact⟨0,{ R with at_:=R.at_+5+5+4 },_,c5,aG _,rfl,rfl,rfl,yV.keeps al.1,x7.step yV.lo (λk y=>(yV.cb k y).1) (bb.bC al.1) (λ_ _=>rfl),bi _ ω,bi _ ω,cX, ⟨dl.out,es.out,a.out,a.kinds,a.stops,a.aj,a.most,a.E,a.bit,a.len,a.even,a.small,aq a.tk (by show R.at_<=R.at_+5+5+4;omega)⟩,vt,rfl,rfl, ⟨rfl,rfl,rfl⟩,by rw[<-an];exact al.2.2,by rw[<-an];exact al.2.1, ⟨rfl,rfl,rfl,by show R.at_<=R.at_+5+5+4;omega⟩⟩
  have ef:Hid (w.heap.size<=go):=by show _<=_;rw[<-an];exact h5.aside.1.size
  rw[an];clear al oL h5 h4 h3 an a hO k1 z1 k5 k6 hS;generalize RG w5=wo at jz⊢;have og:=h.cell.lt;have Ms:=h.lo;go_loopg [11,12] C1 (HdR w b0 g c R s A1 O C1 (go+1) go)
  case atStart=>exact jz
  clear jz;obtain⟨j,R1,t,c',hj,y,rfl,rfl,M,hD,bo,bl,F,a,hO,f,S,bp,eT,bs,G⟩ :=hrel;have AX:=a.len;have AV:=a.le;have ln:t.x.length=R1.X.length-R1.at_:=by rw[<-a.x,ay]
  have fi:=S;have ck:=bp;have Tu:=η f;have cj:=η bo;have df:=η bl;by_cases ee:(j:Int)<(C1:Int)
  · have l9:t.lens.length<t.c2:=by have:=S.out;have:=bp.out.2.2;omega
    by_cases D:t.x.length<3
    · have hs3:=η (ND (AG f l9 D));have ht:=η (nS M.refl 3 ω ω AV ω);clear D ln l9 f bo bl AX AV
      go_wp2_with fail;refine ht.mono ?_;rintro e H ⟨rfl,h6⟩
      go_wp2_with fail;go_ret;exact iM.bad F hs3.out δ δ (bU.fo M hD h6) ⟨a.out,a.kinds,a.stops,a.aj,rfl⟩
    have hs3:=η (AJ f l9 D);have VZ:=gF (hO.bit) 3;obtain⟨V,hV⟩ :=ν (((num t.x 3:Nat):Int):Int);have ht:=η (jX M.refl 3 ω ω a.bit ω V (by rw[a.x,hV]));rw[hV]at hs3;have GZ:0<=V/\V<8:=by have:(2:Nat) ^ 3=8:=δ;omega
    have Rk:Hid (R1.X.drop (R1.at_+3)=t.x.drop 3):=by show _=_;rw[<-a.x,bj]
    have oz:Hid (R1.at_+3<=R1.X.length):=by show _<=_;omega
    have fz:(0:Int)<=j/\(j:Int)<19:=ω;have hp:=OP j ω;have B7:=η (Zx (l:=t.lens) (j:=j) ω S.out V);obtain⟨p,yE⟩ :=ν (l8.getD j 0);rw[yE]at hp B7;have fm:(0:Int)<=p/\(p:Int)<19:=ω;have O5:=η (N5 t.lens V);have en:=η yE;clear D ln l9 f bo bl AX AV VZ hV yE
    go_wp2_with fail;refine ht.mono ?_;rintro e H ⟨rfl,c6,Ci,Mf⟩;have nj:=Mf.2.1.ar eT (λe=>e cj.out);have cL:=Mf.2.1.ar bs (λe=>e df.out);have q1:=cL.cell (i:=j) ω;rw[en.out]at q1;have q2:=nj.cell (i:=p) hp;have q3:=nj.frozen' (i:=p) hp;have fY:go+1<H.heap.size:=nj.lt
    have MJ:Hid (∀nb,nb= !gS (t.lens++[V])->HdR w b0 g c R s A1 O C1 (go+1) go (gk-1) (.bool nb) (.int .i64 ((j:Int)+1)) (H.setCell ⟨go+1,p,none⟩ (.int .i64 V))):=λnb pL=>by
     have J:=hO.step (.inl (by rw[hs3.out]));have I:=IS.Steps.tail F (by rw[hs3.out]);rw[hs3.out]at J I;have cH:c6 (go+1)=0:=by rw[Mf.2.2 _ eT.lt];exact cj
     have ej:c6 go=0:=by rw[Mf.2.2 _ bs.lt];exact df
     have cD:bb H (H.setCell ⟨go+1,p,none⟩ (.int .i64 V)) (λk=>k=go+1):=(bb.refl H (λk=>k=go+1)).setCell (p:= ⟨go+1,p,none⟩) (.inl rfl) _;have ex:DE b0 w c H c6:=hD.step M.lo (λk y=>(M.cb k y).1) Mf.2.1 Mf.2.2;refine⟨j+1,_,_,c6,ω,by show gk-1=_;have:=y.out;omega,by go_num,by rw[pL],Ci.aside cD (λk y=>by rw[y];exact cH),ex.own (cD.more λk y=>by rw[y];exact aq ef.out (ft _)) Ms,cH,ej,I, ⟨Rk.out,oz.out,a.out,a.kinds,a.stops,a.aj,a.most,a.E,a.bit,a.len,a.even,a.small,aq a.tk (by show R1.at_<=R1.at_+3;omega)⟩,J,Tu.out,by show(t.lens++[V]).length=_;rw[ae,fi.out];rfl,ck.out,(nj.iz hp _).congr λq hq=>B7.out q hq,cL.far (p:= ⟨go+1,p,none⟩) (by show go≠go+1;omega) _, ⟨G.X,G.kinds,G.stops,aq G.le (by show R1.at_<=R1.at_+3;omega)⟩⟩
    clear Ci Mf eT bs;cases pL:gS t.lens
    · rw[pL]at O5;have EO:Hid (true= !gS (t.lens++[V])):=by show _=_;rw[O5.out];rfl
      clear O5 pL
      go_wp2_with fail;go_roundg (gk-1)
      case measure=>have:=y.out;omega
      case rel=>exact MJ.out _ EO.out
    rw[pL]at O5;by_cases yy:V=0
    · have EO:Hid (false= !gS (t.lens++[V])):=by show _=_;rw[O5.out,yy];rfl
      have eu:¬(0:Int)<V:=ω;clear O5 pL;subst yy
      go_wp2_with fail;go_roundg (gk-1)
      case measure=>have:=y.out;omega
      case rel=>exact MJ.out _ EO.out
    have EO:Hid (true= !gS (t.lens++[V])):=by
     show _=_;have:(V==0)=false:=by simpa using yy
     rw[O5.out,this];rfl
    have eu:(0:Int)<V:=ω;clear O5 pL yy
    go_wp2_with fail;go_roundg (gk-1)
    case measure=>have:=y.out;omega
    case rel=>exact MJ.out _ EO.out
  obtain rfl:j=C1:=ω;clear fa eS ey hj y ee;obtain⟨z,be⟩ :=ν (t.lens);rw[<-S.out,be]at eT;have bd:bT .i64 wr wr.heap.size (some ⟨go+1,0,none⟩) 19 (iH z):= ⟨(mR z).symm,(eT.rd (B:=wr.heap.size) eT.lt (af 19)).congr λq hq=>UG hq⟩;have QL:=η (DO (t:=t) f (ε S.out bp.out.2.2));have MG:=η (J3 (t:=t) f (ε S.out bp.out.2.2));rw[be]at QL MG⊢;have gm:=η be;have eg:=eT.lt;have cs:=λW (hW:bT .i64 W wr.heap.size (some ⟨go+1,0,none⟩) 19 (iH z))=>uF (some ⟨go+1,0,none⟩) 19 19 _ (iH z) 7 W hW ω;have ab:=η (cs wr bd);have GY:=M.cell.az 1;have et:=M.cell.aH 1;have UZ:Hid (bU w c (wr.setCell ⟨g,1,none⟩ (.int .i64 3)) b0 g { R1 with E:=3 }):=bU.fo M hD (M.refl.put (i:=1) ω (.int .i64 3) { R1 with E:=3 } (fS rfl rfl rfl rfl rfl rfl rfl rfl rfl rfl rfl rfl rfl) rfl);clear be f cs eT bs bo bl AX AV ln;by_cases tH:bg (iH z) 7=0
  rotate_left
  · have hs3:=η (QL (.inl tH));obtain⟨E7,UF⟩ :=ν (bg (iH z) 7);rw[UF]at ab tH;have MA:(E7==0)=false:=by simpa using tH
    generalize gS z=nbv;clear UF QL MG;cases nbv
    all_goals
     go_wp2_with fail;refine ab.mono ?_;rintro e H ⟨rfl,rfl⟩
     go_wp2_with fail;go_ret;exact iM.bad F hs3.out δ δ UZ.out ⟨a.out,a.kinds,a.stops,a.aj,rfl⟩
  cases Cn:gS z
  · have hs3:=η (MG (by rw[tH,Cn];simp));have XZ:=η tH;rw[tH]at ab;clear tH Cn QL MG UZ
    go_wp2_with fail;refine ab.mono ?_;rintro e H ⟨rfl,rfl⟩
    go_wp2_with fail;refine(uG _ _ _ _ _ _ bd (af _) ω).mono ?_;rintro e w7 ⟨gc,rfl,pZ,oA,Yj⟩
    have bi:c' gc=0:=by
     by_cases e:c' gc=0
     · exact e
     have:=(M.cb _ e).2;omega
    have eh:gc<w7.heap.size:=by
     obtain⟨ad,e,hb, -⟩ :=pZ.at_ (i:=0) ω;injection e with e;subst e;exact hb
    have cw:YO w b0 g c (go+1) gc (iH z) R1 none 0 0 [] w7 c':= ⟨aT.di,M.keeps oA,hD.step M.lo (λk y=>(M.cb k y).1) (bb.bC oA) (λ_ _=>rfl),cj.out,bi,λq hq=>by simp [ai]at hq,(bd.below oA).more oA.size,pZ,aB eg oA.size,eh⟩
    have FD:Hid (∃k,LnR w b0 g c R s A1 O (go+1) gc (iH z) k (.slice none 0 0) w7):=by
     have J:=hO.step (.inl (by rw[hs3.out]));have I:=IS.Steps.tail F (by rw[hs3.out]);rw[hs3.out]at J I;exact⟨_,R1,_,c',none,0,0,rfl,cw,I, ⟨a.x,a.le,a.out,a.kinds,a.stops,a.aj,a.most,a.E,a.bit,a.len,a.even,a.small,a.tk⟩,J,rfl,rfl, ⟨ck.out.1,ck.out.2.1,rfl⟩,G⟩
    obtain⟨k0,FD⟩ :=FD.out;have YH:=η FD;clear FD cw pZ M hD a hO bd GY et F G hs3
    go_wp2_with fail;go_loopg [16] k0 (LnR w b0 g c R s A1 O (go+1) gc (iH z))
    case atStart=>exact YH
    clear YH;obtain⟨d,b,c2,Al,n,cp,rfl,hN,F,a,hO,f,y,Mv,G⟩ :=hrel;have fG:n=b.lens.length:=hN.own.1;obtain⟨q1,q2,q3,q4⟩ :=hO.h5 f;have IY:=Mv.out;have tJ:(0:Int)<=n/\(n:Int)<=320:=ω;have qc:=η fG;have dd:=η f;have gl:=η q1;have uk:bg (iH z) 7=0:=XZ.out
    have lO:∀i,i<19->0<=ix (iH z) i/\ix (iH z) i<=15:=λi hi=>by
     have:0<=ix (iH z) i/\ix (iH z) i<=7:=by
      apply Classical.byContradiction
      intro du;rw[uf (by rw[mR];exact hi) du]at uk;exact absurd uk δ
     omega
    have cy:=a.len;have MD:=a.le;have Rl:b.x.length=d.X.length-d.at_:=by rw[<-a.x,ay]
    by_cases fr:(n:Int)<(A1:Int)+(O:Int)
    rotate_left
    · have dz:n=A1+O:=ω;have bx:=η (Ju f ω);have eY:=hN.own.2.iT;have VM:=dR (P:=Tryz.prog) 80 3 Tryz.underlying80 Hi.out fN.out Al n cp (j:=A1) ω;have Jf:=cK (P:=Tryz.prog) 80 3 Tryz.underlying80 Hi.out fN.out Al n cp (j:=A1) ω;have y8:=hN.ref.cell.aH 8;have x8:=hN.ref.cell.az 8;have yv:=hN.ref.put (i:=8) ω (.slice Al A1 cp) { d with Al:= .slice Al A1 cp } (fS rfl rfl rfl rfl rfl rfl rfl rfl rfl rfl rfl rfl rfl) rfl;have y9:=yv.cell.aH 9;have x9:=yv.cell.az 9;have UJ:=yv.put (i:=9) ω (.slice (dw Al cp A1) (n-A1) (cp-A1)) { d with Al:= .slice Al A1 cp,Ad:= .slice (dw Al cp A1) (n-A1) (cp-A1) } (fS rfl rfl rfl rfl rfl rfl rfl rfl rfl rfl rfl rfl rfl) rfl;have R4:ai Al≠some g:=λe=>by have:=(hN.row g e).1;rw[hN.ref.cg]at this;exact absurd this δ
      obtain⟨w9,ac⟩ :=ν ((wr.setCell ⟨g,8,none⟩ (.slice Al A1 cp)).setCell ⟨g,9,none⟩ (.slice (dw Al cp A1) (n-A1) (cp-A1)));have Vz:aT .i64 w9 w.heap.size 3 Al n cp b.lens:=by rw[<-ac];exact(hN.own.far (p:= ⟨g,8,none⟩) R4 _).far (p:= ⟨g,9,none⟩) R4 _
      have cC:bb wr w9 (λk=>c2 k≠0):=by
       rw[<-ac];exact((bb.refl wr (λk=>c2 k≠0)).setCell (p:= ⟨g,8,none⟩) (.inl (by rw[hN.ref.cg];decide)) _).setCell (p:= ⟨g,9,none⟩) (.inl (by rw[hN.ref.cg];decide)) _
      have Aq:DE b0 w c w9 c2:=hN.de.step hN.ref.lo (λk y=>(hN.ref.cb k y).1) cC (λ_ _=>rfl);rw[ac]at UJ;have bv:=η ac;obtain⟨E1,ch⟩ :=ν (bg (b.lens.take b.c0) 15);obtain⟨E2,ce⟩ :=ν (bg (b.lens.drop b.c0) 15);have xm:bT .i64 w9 w9.heap.size Al A1 (b.lens.take b.c0):=by rw[IY.1];exact Vz.rd.pre ω
      have vI:bT .i64 w9 w9.heap.size (dw Al cp A1) (n-A1) (b.lens.drop b.c0):=by rw[IY.1];exact Vz.rd.dw ω eY
      have Zu:=uF Al A1 cp _ (b.lens.take b.c0) 15 w9 xm ω;have ci:=uF (dw Al cp A1) (n-A1) (cp-A1) _ (b.lens.drop b.c0) 15 w9 vI ω;rw[ch]at Zu;rw[ce]at ci;have EL:=η Zu;have xJ:=η ci;obtain⟨ad,ap,er,Ln⟩ :=xm.at_ (i:=256) ω;obtain⟨x,hx⟩ :=ν (ix b.lens 256)
      have a4q:w9.cell? ⟨ad.block,ad.off+256,none⟩ =some (.int .i64 x):=by
       have e:ix (b.lens.take b.c0) 256=x:=by rw[<-hx];unfold ix;rw[au,au,ie,aa ω]
       rw[<-e,<-Hv ad (k:=256) ω];exact Ln
      have k8:=UJ.cell.az 8;rw[show sF { d with Al:= .slice Al A1 cp,Ad:= .slice (dw Al cp A1) (n-A1) (cp-A1) } 8= .slice Al A1 cp from rfl,ap]at k8;have k9:=UJ.cell.az 9;rw[show sF { d with Al:= .slice Al A1 cp,Ad:= .slice (dw Al cp A1) (n-A1) (cp-A1) } 9= .slice (dw Al cp A1) (n-A1) (cp-A1) from rfl]at k9;have k1:=UJ.cell.az 1;have y1:=UJ.cell.aH 1;have gn:=η ap;have jU:=η bx.out;rw[ch,ce,hx]at jU;have mz:Hid (bU w c (w9.setCell ⟨g,1,none⟩ (.int .i64 3)) b0 g { d with Al:= .slice Al A1 cp,Ad:= .slice (dw Al cp A1) (n-A1) (cp-A1),E:=3 }):=bU.fo UJ Aq (UJ.refl.put (i:=1) ω (.int .i64 3) { d with Al:= .slice Al A1 cp,Ad:= .slice (dw Al cp A1) (n-A1) (cp-A1),E:=3 } (fS rfl rfl rfl rfl rfl rfl rfl rfl rfl rfl rfl rfl rfl) rfl)
      have dq:0<n-A1->∀ad,dw Al cp A1=some ad->c2 ad.block=0:=λ_ zx e=>by
       have r:zx.block=(Al.getD ⟨0,0,none⟩).block/\Al.isSome:=by
        unfold dw at e;rw[ap]at e⊢;split at e <;> (injection e with e;subst e)
        all_goals first
         | exact⟨rfl,rfl⟩
         | exact⟨bH _ _,rfl⟩
       rw[r.1];refine(hN.row _ ?_).1;rw[ap];rfl
      have mS:Hid (¬(E1≠0\/E2≠0\/x=0)->iM w b0 g c R s (.returned (.bool true)) w9):=λhg=>by
       have v:=jU.trans (a8 hg);have J:=hO.step (.inl (by rw[v]));have I:=IS.Steps.tail F (by rw[v]);rw[v]at J I;have cr:=λq hq=>(hN.row q hq).1;exact .inl ⟨_,_,c2,Al,A1,cp,dw Al cp A1,n-A1,cp-A1,rfl,UJ,Aq,I,rfl,J, ⟨a.x,a.le,a.out,a.kinds,a.stops,a.aj,a.most,a.E,a.bit,a.len,a.even,a.small,a.tk⟩,rfl,rfl,xm,vI,λ_ zx e=>cr _ (by rw[e];rfl),dq, ⟨G.X,G.kinds,G.stops,G.le⟩⟩
      have fn:(256:Int)<(A1:Int):=ω;clear ac ch ce hx ap Ln f bx Vz cC Aq UJ yv xm vI Zu ci dz IY q1 q2 q3 q4 lO uk fG Rl MD cy eY;by_cases hg:E1≠0\/E2≠0\/x=0
      rotate_left
      · have HG:=η (mS hg);have r:E1=0:=bK.1 λh=>hg (.inl h);have U:E2=0:=bK.1 λh=>hg (.inr (.inl h));have h3:¬x=0:=λh=>hg (.inr (.inr h));have ga:(x==0)=false:=by simpa using h3
        clear hg mS jU;subst r U
        go_wp2_with fail;rw[bv.out];refine EL.mono ?_;rintro e Sr ⟨rfl,rfl⟩
        go_wp2_with fail;refine xJ.mono ?_;rintro e XS ⟨rfl,rfl⟩
        go_wp2_with fail;go_ret;exact HG
      have v:=η (jU.trans (aa hg));have cc:E1≠0\/(E1=0/\E2≠0)\/(E1=0/\E2=0/\x=0):=ω;clear hg mS jU;rcases cc with r | ⟨r,U⟩ | ⟨r,U,h3⟩
      · have SU:(E1==0)=false:=by simpa using r
        go_wp2_with fail;rw[bv.out];refine EL.mono ?_;rintro e Sr ⟨rfl,rfl⟩
        go_wp2_with fail;go_ret;exact iM.bad F v.out δ δ mz.out ⟨a.out,a.kinds,a.stops,a.aj,rfl⟩
      · have gb:(E2==0)=false:=by simpa using U
        subst r
        go_wp2_with fail;rw[bv.out];refine EL.mono ?_;rintro e Sr ⟨rfl,rfl⟩
        go_wp2_with fail;refine xJ.mono ?_;rintro e XS ⟨rfl,rfl⟩
        go_wp2_with fail;go_ret;exact iM.bad F v.out δ δ mz.out ⟨a.out,a.kinds,a.stops,a.aj,rfl⟩
      subst r U h3
      go_wp2_with fail;rw[bv.out];refine EL.mono ?_;rintro e Sr ⟨rfl,rfl⟩
      go_wp2_with fail;refine xJ.mono ?_;rintro e XS ⟨rfl,rfl⟩
      go_wp2_with fail;go_ret;exact iM.bad F v.out δ δ mz.out ⟨a.out,a.kinds,a.stops,a.aj,rfl⟩
    have xo:Hid (b.step=b.length):=Jp f ω;unfold IS.length at xo;obtain⟨K,hK⟩ :=ν ((aK b.hd b.x).1);obtain⟨N,DJ⟩ :=ν ((aK b.hd b.x).2.1);obtain⟨E,hE⟩ :=ν ((aK b.hd b.x).2.2);have fg:Hid (E=0\/E=3\/E=5):=by have:=eP b.hd b.x;rw[hE]at this;exact this
    have oB:Hid (E=0->0<=K/\K<19/\N<=b.x.length):=λh=>by
     obtain⟨k2,n2,e1,e2,e3,e4,e5⟩ :=lU (l:=b.hd) (x:=b.x) hO.bit (by rw[hE,h];simp);rw[e1]at hK DJ;simp at hK DJ;omega
    have ct:aK b.hd b.x=(K,N,E):=by rw[<-hK,<-DJ,<-hE]
    rw[hK,DJ,hE]at xo;have Re:=BA hN.ref.refl (some ⟨go+1,0,none⟩) (some ⟨gc,0,none⟩) 19 19 19 (iH z) hN.rH hN.rC ω lO ω a.bit MD K N E (by rw[a.x,<-IY.2.2];exact ct);have PN:=η Re;clear hK DJ hE ct Re lO uk fG f q1 q2 q3 q4 IY MD cy;by_cases pn:E=0
    rotate_left
    · have hs3:=η (xo.trans (aa pn))
      have sj:Calls Tryz.prog 61 #[.pointer (some ⟨g,0,none⟩), .slice (some ⟨go+1,0,none⟩) 19 19, .slice (some ⟨gc,0,none⟩) 19 19] wr λe w'=>e= .returned (.tuple #[.int .i64 0, .bool false])/\bU wr c2 w' b0 g { d with E:=E }:=by
       refine PN.mono ?_;rintro e w' (⟨r, -⟩ | ⟨-,r,U⟩)
       · exact absurd r pn
       exact⟨r,U⟩
      have L5:=η sj;have h8:E≠8:=by rcases fg.out with e | e | e <;> omega
      have GU:=η pn;have fk:=η h8;clear xo oB fg PN sj pn h8 Rl
      go_wp2_with fail;refine L5.mono ?_;rintro e H ⟨rfl,h6⟩
      go_wp2_with fail;go_ret;exact iM.bad F hs3.out GU.out fk.out (bU.fo hN.ref hN.de h6) ⟨a.out,a.kinds,a.stops,a.aj,rfl⟩
    subst pn;obtain⟨IK,ZA,ge⟩ :=oB.out rfl;have jA:=η (xo.trans (a8 δ));have D:Hid (d.X.drop (d.at_+N)=b.x.drop N):=by show _=_;rw[<-a.x,bj]
    have oz:Hid (d.at_+N<=d.X.length):=by show _<=_;have:=a.le;omega
    have sj:Calls Tryz.prog 61 #[.pointer (some ⟨g,0,none⟩), .slice (some ⟨go+1,0,none⟩) 19 19, .slice (some ⟨gc,0,none⟩) 19 19] wr λe w'=>e= .returned (.tuple #[.int .i64 K, .bool true])/\bU wr c2 w' b0 g { d with at_:=d.at_+N }:=by
     refine PN.mono ?_;rintro e w' (⟨-,r,U⟩ | ⟨r, -⟩)
     · exact⟨r,U⟩
     exact absurd rfl r
    have L5:=η sj;have o:nV { d with at_:=d.at_+N } { b with x:=b.x.drop N }:= ⟨D.out,oz.out,a.out,a.kinds,a.stops,a.aj,a.most,a.E,a.bit,a.len,a.even,a.small,aq a.tk (by show d.at_<=d.at_+N;omega)⟩;have eb:ET R { d with at_:=d.at_+N }:= ⟨G.X,G.kinds,G.stops,aq G.le (by show d.at_<=d.at_+N;omega)⟩;clear xo oB fg PN sj Rl
    go_wp2_with fail;refine L5.mono ?_;rintro e H ⟨rfl,h6⟩;obtain⟨c6,L⟩ :=hN.turn h6;clear h6;by_cases Fv:K<16
    · have v:=η (jA.trans (aa Fv));have je:=L.own.alloc (.cells #[.int .i64 K] 3);have kE:=L.de.2.1.size;have bG:Hid (b.step.1.mu<b.mu):=IS.jr (by rw[v.out]);clear jA
      go_wp2_with (at_builtin;(refine bm .i64 w.heap.size 3 i0 8 rfl (.tmp 124) (.tmp 126) _ rfl Tryz.underlying80 Hi.out gL.out fN.out gM.out rfl je rfl (bT.lit .i64 H [K] 3) ω ω ξ ?_)
                   intro A4 d4 w4 bM ca dY)
      have Yg:=L.push Ms K ca bM dY;go_roundg b.step.1.mu
      case measure=>have:=y.out;have:=bG.out;omega
      have J:=hO.step (.inl (by rw[v.out]));have I:=IS.Steps.tail F (by rw[v.out]);rw[v.out]at J I⊢;exact⟨_,_,c6,A4,n+1,d4,rfl,Yg,I, ⟨o.x,o.le,o.out,o.kinds,o.stops,o.aj,o.most,o.E,o.bit,o.len,o.even,o.small,o.tk⟩,J,dd.out,rfl,Mv.out,eb⟩
    have jU:=η (jA.trans (a8 Fv));have bI:K=16\/K=17\/K=18:=ω;clear jA;obtain⟨Bd,KM⟩ :=ν (decide (K=16/\b.lens.length=0));have oD:=η KM;clear KM;go_upto_region 35 with fail
    go_cut [134] (λs wx=>s= .bool Bd/\wx=H)
    case first=>
     by_cases Z:K=16
     · by_cases nG:n=0
       · have hd:Hid (true=Bd):=by show _=_;rw[<-oD.out];exact(aX ⟨Z,by rw[<-qc.out];exact nG⟩).symm
         clear oD;subst Z nG
         go_wp2_with fail;go_meet;exact⟨bf Value.bool hd.out,rfl⟩
       have hd:Hid (false=Bd):=by show _=_;rw[<-oD.out];exact(aP λh=>nG (by rw[qc.out];exact h.2)).symm
       have Yl:((n:Int)==0)=false:=ξ;clear nG oD;subst Z
       go_wp2_with fail;go_meet;exact⟨bf Value.bool hd.out,rfl⟩
     have hd:Hid (false=Bd):=by show _=_;rw[<-oD.out];exact(aP λh=>Z h.1).symm
     have ec:(K==16)=false:=by simpa using Z
     clear Z oD
     go_wp2_with fail;go_meet;exact⟨bf Value.bool hd.out,rfl⟩
    rename World=>wc
    obtain⟨rfl,rfl⟩ :=hcut;by_cases oY:K=16/\b.lens.length=0
    · have v:=η (jU.trans (aa oY));rw[<-oD.out,aX oY];have x1:=L.ref.cell.az 1;have y1:=L.ref.cell.aH 1;have h7:=bU.fo L.ref L.de (L.ref.refl.put (i:=1) ω (.int .i64 2) { d with at_:=d.at_+N,E:=2 } (fS rfl rfl rfl rfl rfl rfl rfl rfl rfl rfl rfl rfl rfl) rfl);clear oY jU bI Fv
      go_wp2_with fail;go_ret;exact iM.bad F v.out δ δ h7 ⟨a.out,a.kinds,a.stops,a.aj,rfl⟩
    have kP:=η (jU.trans (a8 oY));rw[<-oD.out,aP oY];have vE:K=16->0<n:=λh=>by have:=qc.out;omega
    clear jU oY oD;obtain⟨W,hW⟩ :=ν (IS.rW K);obtain⟨Bs,Yc⟩ :=ν (IS.rB K);have cW:W<=7/\Bs<=11:=by rw[<-hW,<-Yc];rcases bI with rfl | rfl | rfl <;> decide
    have GW:=η (And.intro hW Yc);rw[hW]at kP;clear hW Yc;obtain⟨W1,bt⟩ :=ν ((if K=17 then 3 else 2):Nat)
    have Y6:Hid ((K=17->W1=3/\W=3/\Bs=3)/\(K=18->W=7/\Bs=11)/\(K=16->W1=2/\W=2/\Bs=3)):=by
     refine⟨λh=> ?_,λh=> ?_,λh=> ?_⟩
     · subst h;rw[<-bt,<-GW.1,<-GW.2];exact⟨rfl,rfl,rfl⟩
     · subst h;rw[<-GW.1,<-GW.2];exact⟨rfl,rfl⟩
     subst h;rw[<-bt,<-GW.1,<-GW.2];exact⟨rfl,rfl,rfl⟩
    have PQ:Hid (K≠17->W1=2):=λh=>by rw[<-bt,a8 h]
    clear bt
    go_upto_if 139 with fail
    go_cut [19] (λbB wx=>bB= .int .i64 W1/\wx=wc)
    case first=>
     by_cases aE:K=17
     · have hf:Hid (Value.int .i64 3=Value.int .i64 (W1:Int)):=by show _=_;rw[(Y6.1 aE).1];rfl
       clear Y6 PQ GW;subst aE
       go_wp2_with fail;go_meet;exact⟨hf.out,rfl⟩
     have hf:Hid (Value.int .i64 2=Value.int .i64 (W1:Int)):=by show _=_;rw[PQ.out aE];rfl
     have gi:(K==17)=false:=by simpa using aE
     clear Y6 PQ GW aE
     go_wp2_with fail;go_meet;exact⟨hf.out,rfl⟩
    obtain⟨rfl,rfl⟩ :=hcut
    go_upto_if 141 with fail
    go_cut [19,20] (λbB dk wx=>bB= .int .i64 W/\dk= .int .i64 Bs/\wx=wc)
    case first=>
     by_cases Y:K=18
     · have hf:Hid (Value.int .i64 7=Value.int .i64 (W:Int)/\Value.int .i64 11=Value.int .i64 (Bs:Int)):=by show _/\_;rw[(Y6.2.1 Y).1,(Y6.2.1 Y).2];exact⟨rfl,rfl⟩
       clear Y6 PQ GW;subst Y
       go_wp2_with fail;go_meet;exact⟨hf.1,hf.2,rfl⟩
     have hf:Hid (Value.int .i64 (W1:Int)=Value.int .i64 (W:Int)/\Value.int .i64 3=Value.int .i64 (Bs:Int)):=by
      show _/\_;rcases bI with h | h | h
      · obtain⟨a1,a2,a3⟩ :=Y6.2.2 h;rw[a1,a2,a3];exact⟨rfl,rfl⟩
      · obtain⟨a1,a2,a3⟩ :=Y6.1 h;rw[a1,a2,a3];exact⟨rfl,rfl⟩
      exact absurd h Y
     have gh:(K==18)=false:=by simpa using Y
     clear Y6 PQ GW Y
     go_wp2_with fail;go_meet;exact⟨hf.1,hf.2,rfl⟩
    obtain⟨rfl,rfl,rfl⟩ :=hcut;have cq:(b.x.drop N).length=d.X.length-(d.at_+N):=by rw[<-D.out,ay]
    have cx:=a.len;by_cases am:(b.x.drop N).length<W
    · have v:=η (kP.trans (aa am));have ht:=η (nS L.ref.refl W ω (by show d.X.length<=_;omega) oz.out (by show d.X.length<d.at_+N+W;omega));clear am cq kP cx vE
      go_wp2_with fail;refine ht.mono ?_;rintro e w7 ⟨rfl,h7⟩
      go_wp2_with fail;go_ret;exact iM.bad F v.out δ δ (bU.fo L.ref L.de h7) ⟨a.out,a.kinds,a.stops,a.aj,rfl⟩
    have jV:=η (kP.trans (a8 am));unfold IS.kx at jV;have VZ:=gF (hO.bit.dU N) W;have ds:2 ^ W<=2 ^ 7:=bw ω cW.1;obtain⟨V,hV⟩ :=ν (num (b.x.drop N) W);have ht:=η (jX L.ref.refl W ω (by show d.X.length<=_;omega) a.bit (by show d.at_+N+W<=d.X.length;have:=oz.out;omega) (V:Int) (by show _=((num (d.X.drop (d.at_+N)) W:Nat):Int);rw[D.out,hV]));rw[hV]at VZ;obtain⟨T,hT⟩ :=ν (Bs+V);obtain⟨KK,cd⟩ :=ν ((if K=16 then ix b.lens (b.lens.length-1)else 0):Int);rw[GW.1,GW.2,hV,hT,cd]at jV;have ev:(Bs:Int)+(V:Int)=(T:Int):=ω;have gd:(0:Int)<=T/\(T:Int)<=200/\(0:Int)<=V/\(V:Int)<=128/\(0:Int)<=Bs/\(Bs:Int)<=11:=ω;have dp:Hid (d.X.drop (d.at_+N+W)=(b.x.drop N).drop W):=by show _=_;rw[<-D.out,bj]
    have dY:Hid (d.at_+N+W<=d.X.length):=by show _<=_;have:=oz.out;omega
    have Cb:=η cd;clear am cq kP cx VZ ds hV hT cd cW GW Y6 PQ
    go_wp2_with fail;refine ht.mono ?_;rintro e w7 ⟨rfl,h7⟩;obtain⟨c7,Yg⟩ :=L.turn h7;clear h7 L
    go_upto_if 154 with fail
    go_cut [23] (λdj wx=>dj= .int .i64 KK/\wx=w7)
    case first=>
     by_cases Z:K=16
     · obtain⟨m,hm⟩ :∃m,n=m+1:= ⟨n-1,τ (vE Z)⟩;subst hm;obtain⟨ad,rfl,er,c1⟩ :=Yg.own.rd.at_ (i:=m) ω;have cA:Hid (ix b.lens m=KK):=by show _=_;rw[<-Cb.out,aa Z,<-qc.out];rfl
       rw[cA.out]at c1;have J7:(0:Int)<=m/\(m:Int)<=400:=ω;clear Cb vE cA;subst Z
       go_wp2_with fail;go_meet;exact⟨rfl,rfl⟩
     have ec:(K==16)=false:=by simpa using Z
     have hz:Hid (Value.int .i64 0=Value.int .i64 KK):=by show _=_;rw[<-Cb.out,a8 Z]
     clear Cb vE Z
     go_wp2_with fail;go_meet;exact⟨hz.out,rfl⟩
    obtain⟨rfl,rfl⟩ :=hcut;clear vE Cb ev;by_cases kh:(A1:Int)+(O:Int)<(n:Int)+(T:Int)
    · have v:=η (jV.trans (aa (by have r:=Mv.out.1;have U:=Mv.out.2.1;have h3:=qc.out;omega)));have x1:=Yg.ref.cell.az 1;have y1:=Yg.ref.cell.aH 1;have h8:=bU.fo Yg.ref Yg.de (Yg.ref.refl.put (i:=1) ω (.int .i64 2) { d with at_:=d.at_+N+W,E:=2 } (fS rfl rfl rfl rfl rfl rfl rfl rfl rfl rfl rfl rfl rfl) rfl);clear jV
      go_wp2_with fail;go_ret;exact iM.bad F v.out δ δ h8 ⟨a.out,a.kinds,a.stops,a.aj,rfl⟩
    have v:=η (jV.trans (a8 (by have r:=Mv.out.1;have U:=Mv.out.2.1;have h3:=qc.out;omega)));clear jV;have cB:Hid (RpR w b0 g c (go+1) gc (iH z) { d with at_:=d.at_+N+W } b.lens KK T c7 T (.slice Al n cp) (.int .i64 0) wc):= ⟨0,Al,n,cp,aG _,rfl,rfl,rfl,by rw[List.replicate_zero,ak];exact Yg⟩;clear Yg
    go_wp2_with fail;go_loopg [16,24] T (RpR w b0 g c (go+1) gc (iH z) { d with at_:=d.at_+N+W } b.lens KK T c7)
    case atStart=>exact cB
    clear cB;obtain⟨jj,A3,n3,fb,fv,cz,rfl,rfl,ao⟩ :=hrel;by_cases fy:(jj:Int)<(T:Int)
    · have B3:n3=(b.lens++List.replicate jj KK).length:=ao.own.1;rw[ae,aS,<-qc.out]at B3;have ea:n3+1<=1000000000000:=ω;have je:=ao.own.alloc (.cells #[.int .i64 KK] 3);have rE:=ao.de.2.1.size;clear B3
      go_wp2_with (at_builtin;(refine bm .i64 w.heap.size 3 i0 8 rfl (.tmp 177) (.tmp 179) _ rfl Tryz.underlying80 Hi.out gL.out fN.out gM.out rfl je rfl (bT.lit .i64 wr [KK] 3) ea ω ξ ?_)
                   intro A4 d4 w4 bM ca jF)
      have ew:=ao.push Ms KK ca bM jF;go_roundg (gk-1)
      case measure=>have:=cz.out;omega
      case rel=>exact⟨jj+1,A4,n3+1,d4,ω,by show gk-1=_;have:=cz.out;omega,by go_num,rfl,by rw[List.replicate_succ',<-av];exact ew⟩
    obtain rfl:jj=T:=ω;have bG:Hid (b.step.1.mu<b.mu):=IS.jr (by rw[v.out])
    go_wp2_with fail;go_roundg b.step.1.mu
    case measure=>have:=y.out;have:=bG.out;omega
    have J:=hO.step (.inl (by rw[v.out]));have I:=IS.Steps.tail F (by rw[v.out]);rw[v.out]at J I⊢;exact⟨{ d with at_:=d.at_+N+W },_,c7,A3,n3,fb,rfl,ao,I, ⟨dp.out,dY.out,a.out,a.kinds,a.stops,a.aj,a.most,a.E,a.bit,a.len,a.even,a.small,aq a.tk (by show d.at_<=d.at_+N+W;omega)⟩,J,dd.out,rfl,Mv.out, ⟨G.X,G.kinds,G.stops,aq G.le (by show d.at_<=d.at_+N+W;omega)⟩⟩
  have hs3:=η (QL (.inr Cn));rw[tH]at ab;clear tH Cn QL MG
  go_wp2_with fail;refine ab.mono ?_;rintro e H ⟨rfl,rfl⟩
  go_wp2_with fail;go_ret;exact iM.bad F hs3.out δ δ UZ.out ⟨a.out,a.kinds,a.stops,a.aj,rfl⟩
end
end Go.Proofs.YtgiimmkmjpbecaaGreat
