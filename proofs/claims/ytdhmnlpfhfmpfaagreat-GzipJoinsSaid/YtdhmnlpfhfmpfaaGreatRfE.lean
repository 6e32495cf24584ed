/-
  part
-/
import Derived.Test.YtdhmnlpfhfmpfaaGreatArr
import Derived.Test.YtdhmnlpfhfmpfaaGreatPk33
namespace Go.Proofs.YtdhmnlpfhfmpfaaGreat
open Go.RowKit
set_option linter.unusedVariables false
set_option maxRecDepth 100000
set_option maxHeartbeats 8000000
section
variable {w w' w0 w2 wr w5:World} {b0 g:Nat} {c c0 c':Nat->Nat} {R R' R1:RM} {s t t':IS} {v:Int}
theorem a7J (x:List Int) (h:dJ x) (f:14<=x.length):num x 14%32=num x 5/\num x 14/32%32=num (x.drop 5) 5/\num x 14/1024=num (x.drop 10) 4:=by
 have b:=(xx x h 5 9).resolve_right ω;have a:=(xx (x.drop 5) (h.dX 5) 5 4).resolve_right (by rw[av];omega);rw[bm]at a;have b:num x 14=num x 5+2 ^ 5*num (x.drop 5) 9:=b;have a:num (x.drop 5) 9=num (x.drop 5) 5+2 ^ 5*num (x.drop 10) 4:=a;have d:=gD h 5;have c:=gD (h.dX 5) 5;have e:(2:Nat) ^ 5=32:=δ;rw[e]at b a d c;refine⟨?_, ?_, ?_⟩ <;> omega
theorem DE.own (hd:DE b0 w0 c0 w c) (b:bj w w' (λk=>w0.heap.size<=k)) (d:b0<=w0.heap.size):DE b0 w0 c0 w' c:=
 ⟨hd.1.trans (b.below (b0:=b0) (λk a=>au d a) (au d hd.2.1.size)),hd.2.1.trans b (λk a=> .inr a),hd.2.2⟩
def iJ (w:World) (b0 g:Nat) (c:Nat->Nat) (R:RM) (s:IS) (e:Ending) (w':World):Prop:=
 (∃R' t c' Al nl cl Ad b d,e= .returned (.bool true)/\ie w' b0 g c' R'/\DE b0 w c w' c'/\IS.Steps s t/\t.st=6/\t.Ok/\nX R' t/\R'.Al= .slice Al nl cl/\R'.Ad= .slice Ad b d/\bU .i64 w' w'.heap.size Al nl t.lt/\bU .i64 w' w'.heap.size Ad b t.ds/\(0<nl->∀a,Al=some a->c' a.block=0)/\(0<b->∀a,Ad=some a->c' a.block=0)/\Ey R R')\/
 (∃R' t v,e= .returned (.bool false)/\bV w c w' b0 g R'/\s.fin=(t,v)/\v≠8/\Kj R' t v)
theorem iJ.bad (a:IS.Steps s t) (h:t.step=(t',v)) (e:v≠0) (d:v≠8) (b:bV w c w' b0 g R') (hE:Kj R' t' v):iJ w b0 g c R s (.returned (.bool false)) w':=
 .inr ⟨R',t',v,rfl,b,by rw[<-a.mr,IS.ir (by rw[h];exact e),h],d,hE⟩
def HdR (w:World) (b0 g:Nat) (c:Nat->Nat) (R:RM) (s:IS) (A B C:Nat) (d go:Nat) (k:Nat) (b a:Value) (wr:World):Prop:=
 ∃j R' t c',j<=C/\Hid (k=C-j)/\a= .int .i64 j/\b= .bool (!gQ t.lens)/\ie wr b0 g c' R'/\DE b0 w c wr c'/\c' d=0/\c' go=0/\IS.Steps s t/\nX R' t/\t.Ok/\t.st=4/\Hid (t.lens.length=j)/\Hid (t.c0=A/\t.c1=B/\t.c2=C)/\Ar wr d 19 (hF t.lens j)/\Ar wr go 19 (λp=> .int .i64 (ll.getD p 0:Nat))/\Ey R R'
structure XY (w:World) (b0 g:Nat) (c:Nat->Nat) (gh gc:Nat) (H:List Int) (R:RM) (Al:Option Addr) (n cp:Nat) (l:List Int) (wr:World) (c':Nat->Nat):Prop where
 own:aW .i64 wr w.heap.size 3 Al n cp l
 ref:ie wr b0 g c' R
 de:DE b0 w c wr c'
 cgh:c' gh=0
 cgc:c' gc=0
 row:∀q,ai Al=some q->c' q=0/\q≠gh/\q≠gc
 rH:bU .i64 wr wr.heap.size (some ⟨gh,0,none⟩) 19 H
 rC:bU .u32 wr wr.heap.size (some ⟨gc,0,none⟩) 19 (jd H)
 lh:gh<wr.heap.size
 lc:gc<wr.heap.size
theorem XY.push {p r:Nat} {H l:List Int} {Al i:Option Addr} {n cp o d4:Nat} {f:World} (h:XY w b0 g c p r H R Al n cp l wr c') (u:b0<=w.heap.size) (v:Int) (j:(wr.alloc (.cells #[.int .i64 v] 3)).grownBy f (ai Al)) (s:aW .i64 f w.heap.size 3 i o d4 (l++[v])) (k:ai i=ai Al\/ai i=some (wr.alloc (.cells #[.int .i64 v] 3)).heap.size):
  XY w b0 g c p r H R i o d4 (l++[v]) f c':=by
 have d:bj wr f (λq=>ai Al=some q):=((bj.refl wr (λq=>ai Al=some q)).alloc _).grown j (λq e=> .inl e);have t:∀q,ai Al=some q->w.heap.size<=q:=λq b=>(h.own.2.lt b).1;have a:=d.size;refine⟨s,h.ref.aside d (λq b=>(h.row q b).1),h.de.own (d.more t) u,h.cgh,h.cgc,λq b=> ?_,(d.rA h.rH (ag _) (λ_ x e m=> ?_)).more a,(d.rA h.rC (ag _) (λ_ x e m=> ?_)).more a,aD h.lh a,aD h.lc a⟩
 · rcases k with e | e
   · exact h.row q (by rw[<-e];exact b)
   rw[e]at b;injection b with b;simp at b;have z:=h.lh;have y:=h.lc;refine⟨?_,ω,ω⟩;by_cases e:c' q=0
   · exact e
   have:=(h.ref.cb q e).2;omega
 · injection e with e;subst e;exact(h.row _ m).2.1 rfl
 injection e with e;subst e;exact(h.row _ m).2.2 rfl
theorem XY.turn {m o:Nat} {H l:List Int} {Al:Option Addr} {n cp:Nat} (h:XY w b0 g c m o H R Al n cp l wr c') (p:bV wr c' w' b0 g R'):∃j,XY w b0 g c m o H R' Al n cp l w' j:=by
 obtain⟨j,s,f⟩ :=p;have d:=f.2.1;have a:=d.size;refine⟨j,d.eH h.own (λq b e=>e (h.row q b).1),s,h.de.step h.ref.lo (λk r=>(h.ref.cb k r).1) d f.2.2,(f.2.2 _ h.lh).trans h.cgh,(f.2.2 _ h.lc).trans h.cgc,λq b=> ⟨(f.2.2 _ (h.own.2.lt b).2).trans (h.row q b).1,(h.row q b).2⟩,(d.rA h.rH (ag _) (λ_ t e i=> ?_)).more a,(d.rA h.rC (ag _) (λ_ t e i=> ?_)).more a,aD h.lh a,aD h.lc a⟩
 · injection e with e;subst e;exact i h.cgh
 injection e with e;subst e;exact i h.cgc
def LnR (w:World) (b0 g:Nat) (c:Nat->Nat) (R:RM) (s:IS) (A B:Nat) (b d:Nat) (H:List Int) (k:Nat) (a:Value) (wr:World):Prop:=
 ∃R' t c' Al n cp,a= .slice Al n cp/\XY w b0 g c b d H R' Al n cp t.lens wr c'/\IS.Steps s t/\nX R' t/\t.Ok/\t.st=5/\Hid (k=t.mu)/\Hid (t.c0=A/\t.c1=B/\t.hd=H)/\Ey R R'
def RpR (w:World) (b0 g:Nat) (c:Nat->Nat) (d e:Nat) (H:List Int) (R1:RM) (l:List Int) (K:Int) (N:Nat) (c':Nat->Nat) (k:Nat) (b a:Value) (wr:World):Prop:=
 ∃j A n cp,j<=N/\Hid (k=N-j)/\a= .int .i64 j/\b= .slice A n cp/\XY w b0 g c d e H R1 A n cp (l++List.replicate j K) wr c'
theorem YI {l:List Int} {j:Nat} (c:j<19) (b:l.length=j) (V:Int):∀q,q<19->upd (hF l j) (ll.getD j 0) (.int .i64 V) q=hF (l++[V]) (j+1) q:=λq a=>by
 have h:=Ns (l:=l++[V]) (i:=j) c a;have e:ix (l++[V]) j=V:=by rw[dn,aa ω,b,dR];rfl
 rw[e]at h;rw[<-h];by_cases hp:q=ll.getD j 0
 · rw[hp,upd_same,upd_same]
 rw[dL _ _ hp,dL _ _ hp];unfold hF;by_cases hi:ll.idxOf q<j
 · rw[ae hi,ae hi,dn,ae ω]
 rw[aa hi,aa hi]
theorem LX (l:List Int) (V:Int):gQ (l++[V])=(gQ l&&(V==0)):=by simp [gQ]
theorem Mv (h:t.step.2=5):t.step=(t,5):=Prod.ext (IS.E6 h) h
def Qt (w:World):World:=(w.alloc (.cells (([16,17,18,0,8,7,9,6,10,5,11,4,12,3,13,2,14,1,15]:List Int).map (Value.int .i64)).toArray 3)).alloc (.cells (eD 19 (.int .i64 0)) 3)
theorem Mc (w:World) (l:List Int):Below w.heap.size w (Qt w)/\Ar (Qt w) w.heap.size 19 (λp=> .int .i64 (ll.getD p 0:Nat))/\Ar (Qt w) (w.heap.size+1) 19 (hF l 0):=by
 refine⟨((aw _ w).alloc (ag _) _).alloc σ _, ?_, ?_⟩
 · refine(Ar.new (m:=19) (f:=λp=> .int .i64 (ll.getD p 0:Nat)) w _ 3 rfl (λi hi=> ?_)).alloc _;obtain rfl | rfl | rfl | rfl | rfl | rfl | rfl | rfl | rfl | rfl | rfl | rfl | rfl | rfl | rfl | rfl | rfl | rfl | rfl:i=0\/i=1\/i=2\/i=3\/i=4\/i=5\/i=6\/i=7\/i=8\/i=9\/i=10\/i=11\/i=12\/i=13\/i=14\/i=15\/i=16\/i=17\/i=18:=ω;all_goals rfl
 have a:=(Ar.zeros (w.alloc (.cells (([16,17,18,0,8,7,9,6,10,5,11,4,12,3,13,2,14,1,15]:List Int).map (Value.int .i64)).toArray 3)) 19 (.int .i64 0) 3).congr (f':=hF l 0) λp _=>Nt l p;rw[show(w.alloc (.cells (([16,17,18,0,8,7,9,6,10,5,11,4,12,3,13,2,14,1,15]:List Int).map (Value.int .i64)).toArray 3)).heap.size=w.heap.size+1 by simp]at a;exact a
theorem FM (h:ie w b0 g c R) (a:nX R s) (hO:s.Ok) (f:s.st=3):
  Calls Tryz.prog 54 #[.pointer (some ⟨g,0,none⟩)] w (iJ w b0 g c R s):=by
 obtain⟨i0,hi,cr,cq,co⟩ :=aJ mI;have Hi:=η hi;have gV:=η cr;have fY:=η cq;have gW:=η co;have fr:=a.len;have fS:=a.le;have u:Hid (s.step=s.sizes):=by show _=_;unfold IS.step;rw[aa ω,aa ω,aa ω,ae f]
 unfold IS.sizes at u;have k1:=h.cell.cell (i:=1) ω;have z1:=h.cell.frozen' (i:=1) ω;have k5:=h.cell.cell (i:=5) ω;have k6:=h.cell.cell (i:=6) ω;rw[show sF R 5= .slice R.Ab R.nb R.cb from rfl]at k5;rw[show sF R 6= .int .i64 (R.at_:Nat) from rfl]at k6;obtain⟨e,he⟩ :=ν (R.at_+14);have hw:IntKind.i64.wrap ((R.at_:Int)+14)=(e:Int):=by rw[aK _ ω];omega
 have rI:R.nb=R.X.length:=h.bits.1;have cw:s.x.length=R.X.length-R.at_:=by rw[<-a.x,av]
 have hS:=h.refl;have gn:=η f;clear hi cr cq co;by_cases am:(R.nb:Int)<(e:Int)
 · have F:=η (u.out.trans (ae ω));have r:=hS.drew.put (i:=1) ω (.int .i64 5) { R with E:=5 } (fM rfl rfl rfl rfl rfl rfl rfl rfl rfl rfl rfl rfl rfl) rfl;clear he rI cw u f;go_enter Tryz.func54,Tryz.ntmps54
   go_wp2_with fail;go_region
   all_goals
    go_wp2_with fail;go_ret;exact iJ.bad (.refl s) F.out δ δ r ⟨a.out,a.kinds,a.stops,a.aj,rfl⟩
 have Q:=η (u.out.trans (aa ω));have um:dJ s.x:=hO.bit;obtain⟨n1,n2,n3⟩ :=a7J s.x um ω;have l1:=gD um 5;have l2:=gD (um.dX 5) 5;have l3:=gD (um.dX 10) 4;obtain⟨A,hA⟩ :=ν (num s.x 5);obtain⟨B,hB⟩ :=ν (num (s.x.drop 5) 5);obtain⟨C,hC⟩ :=ν (num (s.x.drop 10) 4);rw[n1,n2,n3,hA,hB,hC]at Q;have uZ:=η (jT hS.drew 5 ω ω a.bit ω (A:Int) (by rw[a.x,hA]));have NM:=λW (hW:bV w c W b0 g { R with at_:=R.at_+5 })=>jT hW 5 ω (by show R.X.length<=_;omega) a.bit (by show R.at_+5+5<=R.X.length;omega) (B:Int) (by show _=((num (R.X.drop (R.at_+5)) 5:Nat):Int);rw[<-bm,a.x,hB]);have Qd:=λW (hW:bV w c W b0 g { R with at_:=R.at_+5+5 })=>jT hW 4 ω (by show R.X.length<=_;omega) a.bit (by show R.at_+5+5+4<=R.X.length;omega) (C:Int) (by show _=((num (R.X.drop (R.at_+5+5)) 4:Nat):Int);rw[eZ,<-bm,a.x,hC]);have Xh:=η NM;have dj:=η Qd;have e5:(2:Nat) ^ 5=32:=δ;have e4:(2:Nat) ^ 4=16:=δ;rw[hA,e5]at l1;rw[hB,e5]at l2;rw[hC,e4]at l3;obtain⟨A1,wF⟩ :=ν (A+257);obtain⟨O,Gn⟩ :=ν (B+1);obtain⟨C1,YE⟩ :=ν (C+4);rw[wF,Gn,YE]at Q;have fd:(A:Int)+257=(A1:Int):=ω;have fb:(B:Int)+1=(O:Int):=ω;have fa:(C:Int)+4=(C1:Int):=ω;have kf:(0:Int)<=A/\(A:Int)<32/\(0:Int)<=B/\(B:Int)<32/\(0:Int)<=C/\(C:Int)<16:=ω;have gj:(257:Int)<=A1/\(A1:Int)<=288/\(1:Int)<=O/\(O:Int)<=32/\(4:Int)<=C1/\(C1:Int)<=19:=ω;have du:Hid (R.X.drop (R.at_+5+5+4)=s.x.drop 14):=by show _=_;rw[<-a.x,bm]
 have eu:Hid (R.at_+5+5+4<=R.X.length):=by show _<=_;omega
 clear n1 n2 n3 hA hB hC e5 e4 wF Gn YE l1 l2 l3 he rI cw u f NM Qd;by_cases kg:(286:Int)<A1\/(30:Int)<O
 · have ah:=η (Q.out.trans (ae ω));have cd:(286:Int)<A1\/(¬(286:Int)<A1/\(30:Int)<O):=ω;clear kg Q;rcases cd with r | ⟨r,U⟩
   all_goals
    go_enter Tryz.func54,Tryz.ntmps54
    go_wp2_with fail;go_region
    all_goals
     go_wp2_with fail;refine uZ.out.mono ?_;rintro e w3 ⟨rfl,h3⟩
     go_wp2_with fail;refine(Xh.out _ h3).mono ?_;rintro e w4 ⟨rfl,h4⟩
     go_wp2_with fail;refine(dj.out _ h4).mono ?_;rintro e w5 ⟨rfl,h5⟩;have j1:=h5.cell.cell (i:=1) ω;have y1:=h5.cell.frozen' (i:=1) ω;have h6:=h5.put (i:=1) ω (.int .i64 2) { R with at_:=R.at_+5+5+4,E:=2 } (fM rfl rfl rfl rfl rfl rfl rfl rfl rfl rfl rfl rfl rfl) rfl
     go_wp2_with fail;go_ret;exact iJ.bad (.refl s) ah.out δ δ h6 ⟨a.out,a.kinds,a.stops,a.aj,rfl⟩
 have ah:=η (Q.out.trans (aa ω));have r:¬(286:Int)<A1:=ω;have U:¬(30:Int)<O:=ω;clear kg Q;have oN:∀W,(Instr.makeSlice 63 (.int .i64 19) (.int .i64 19)).run Tryz.prog W= .ok (.slice (some ⟨W.heap.size,0,none⟩) 19 19) (W.alloc (.cells (eD 19 (.int .i64 0)) 3)):=λW=>fQ (P:=Tryz.prog) 63 3 i0 (.int .i64 0) Tryz.underlying63 Hi.out gV.out fY.out rfl .i64 .i64 19 (by rw[gW.out];omega) ω W;have fl:=η oN;clear oN;go_enter Tryz.func54,Tryz.ntmps54
 go_wp2_with fail;go_region
 all_goals
  go_wp2_with fail;refine uZ.out.mono ?_;rintro e w3 ⟨rfl,h3⟩
  go_wp2_with fail;refine(Xh.out _ h3).mono ?_;rintro e w4 ⟨rfl,h4⟩
  go_wp2_with fail;refine(dj.out _ h4).mono ?_;rintro e w5 ⟨rfl,h5⟩;go_upto_region 13 with fail
  refine wp_region_list ?_;refine wpList_buildFlatAt rfl 63 3 19 _ rfl .i64 [16,17,18,0,8,7,9,6,10,5,11,4,12,3,13,2,14,1,15] _ rfl _ rfl Tryz.underlying63 (by kernel_rfl) (by kernel_rfl) rfl δ δ rfl ?_;have oN:=fl.out
  go_wp2_with fail
  change Code.wp _ _ _ _ (Qt w5)
  have al:=Mc w5 [];obtain⟨go,an⟩ :=ν (w5.heap.size)
  have kZ:Hid (HdR w b0 g c R s A1 O C1 (go+1) go C1 (.bool false) (.int .i64 0) (Qt w5)):=by
   obtain⟨c5,Lb,JS⟩ :=h5
   have bl:∀q,w5.heap.size<=q->c5 q=0:=λq hq=>by
    by_cases e:c5 q=0
    · exact e
    have:=(Lb.cb q e).2;omega
   have vD:=hO.step (.inl (by rw[ah.out]));have db:=IS.Steps.one (s:=s) (by rw[ah.out]);rw[ah.out]at vD db;exact⟨0,{ R with at_:=R.at_+5+5+4 },_,c5,aF _,rfl,rfl,rfl,Lb.keeps al.1,JS.step Lb.lo (λk y=>(Lb.cb k y).1) (bj.bA al.1) (λ_ _=>rfl),bl _ ω,bl _ ω,db, ⟨du.out,eu.out,a.out,a.kinds,a.stops,a.aj,a.most,a.E,a.bit,a.len,a.even,a.small,au a.tk (by show R.at_<=R.at_+5+5+4;omega)⟩,vD,rfl,rfl, ⟨rfl,rfl,rfl⟩,by rw[<-an];exact al.2.2,by rw[<-an];exact al.2.1, ⟨rfl,rfl,rfl,by show R.at_<=R.at_+5+5+4;omega⟩⟩
  have eg:Hid (w.heap.size<=go):=by show _<=_;rw[<-an];exact h5.aside.1.size
  rw[an];clear al oN h5 h4 h3 an a hO k1 z1 k5 k6 hS;generalize Qt w5=wo at kZ⊢;have oL:=h.cell.lt;have Gq:=h.lo;go_loopg [11,12] C1 (HdR w b0 g c R s A1 O C1 (go+1) go)
  case atStart=>exact kZ.out
  clear kZ;obtain⟨j,R1,t,c',hj,y,rfl,rfl,M,hD,bp,bo,F,a,hO,f,S,bs,gg,bt,G⟩ :=hrel;have AJ:=a.len;have AE:=a.le;have nH:t.x.length=R1.X.length-R1.at_:=by rw[<-a.x,av]
  have fm:=S;have cl:=bs;have Sn:=η f;have ck:=η bp;have dp:=η bo;by_cases ef:(j:Int)<(C1:Int)
  · have lr:t.lens.length<t.c2:=by have:=S.out;have:=bs.out.2.2;omega
    by_cases D:t.x.length<3
    · have hs3:=η (Mv (Au f lr D));have ht:=η (nV M.refl 3 ω ω AE ω);clear D nH lr f bp bo AJ AE
      go_wp2_with fail;refine ht.out.mono ?_;rintro e H ⟨rfl,h6⟩
      go_wp2_with fail;go_ret;exact iJ.bad F hs3.out δ δ (bV.fp M hD h6) ⟨a.out,a.kinds,a.stops,a.aj,rfl⟩
    have hs3:=η (Av f lr D);have Vg:=gD (hO.bit) 3;obtain⟨V,hV⟩ :=ν (((num t.x 3:Nat):Int):Int);have ht:=η (jT M.refl 3 ω ω a.bit ω V (by rw[a.x,hV]));rw[hV]at hs3;have F4:0<=V/\V<8:=by have:(2:Nat) ^ 3=8:=δ;omega
    have Qf:Hid (R1.X.drop (R1.at_+3)=t.x.drop 3):=by show _=_;rw[<-a.x,bm]
    have pj:Hid (R1.at_+3<=R1.X.length):=by show _<=_;omega
    have gb:(0:Int)<=j/\(j:Int)<19:=ω;have hp:=Nw j ω;have AU:=η (YI (l:=t.lens) (j:=j) ω S.out V);obtain⟨p,yK⟩ :=ν (ll.getD j 0);rw[yK]at hp AU;have fs:(0:Int)<=p/\(p:Int)<19:=ω;have MM:=η (LX t.lens V);have es:=η yK;clear D nH lr f bp bo AJ AE Vg hV yK
    go_wp2_with fail;refine ht.out.mono ?_;rintro e H ⟨rfl,c6,Ry,L8⟩;have oB:=L8.2.1.ar gg (λe=>e ck.out);have cX:=L8.2.1.ar bt (λe=>e dp.out);have q1:=cX.cell (i:=j) ω;rw[es.out]at q1;have q2:=oB.cell (i:=p) hp;have q3:=oB.frozen' (i:=p) hp;have gd:go+1<H.heap.size:=oB.lt
    have LG:Hid (∀nb,nb= !gQ (t.lens++[V])->HdR w b0 g c R s A1 O C1 (go+1) go (gk-1) (.bool nb) (.int .i64 ((j:Int)+1)) (H.setCell ⟨go+1,p,none⟩ (.int .i64 V))):=λnb rI=>by
     have J:=hO.step (.inl (by rw[hs3.out]));have I:=IS.Steps.tail F (by rw[hs3.out]);rw[hs3.out]at J I;have cW:c6 (go+1)=0:=by rw[L8.2.2 _ gg.lt];exact ck.out
     have er:c6 go=0:=by rw[L8.2.2 _ bt.lt];exact dp.out
     have cL:bj H (H.setCell ⟨go+1,p,none⟩ (.int .i64 V)) (λk=>k=go+1):=(bj.refl H (λk=>k=go+1)).setCell (p:= ⟨go+1,p,none⟩) (.inl rfl) _;have eS:DE b0 w c H c6:=hD.step M.lo (λk y=>(M.cb k y).1) L8.2.1 L8.2.2;refine⟨j+1,_,_,c6,ω,by show gk-1=_;have:=y.out;omega,by go_num,by rw[rI],Ry.aside cL (λk y=>by rw[y];exact cW),eS.own (cL.more λk y=>by rw[y];exact au eg.out (fu _)) Gq,cW,er,I, ⟨Qf.out,pj.out,a.out,a.kinds,a.stops,a.aj,a.most,a.E,a.bit,a.len,a.even,a.small,au a.tk (by show R1.at_<=R1.at_+3;omega)⟩,J,Sn.out,by show(t.lens++[V]).length=_;rw[af,fm.out];rfl,cl.out,(oB.bC hp _).congr λq hq=>AU.out q hq,cX.far (p:= ⟨go+1,p,none⟩) (by show go≠go+1;omega) _, ⟨G.X,G.kinds,G.stops,au G.le (by show R1.at_<=R1.at_+3;omega)⟩⟩
    clear Ry L8 gg bt;cases rI:gQ t.lens
    · rw[rI]at MM;have Cm:Hid (true= !gQ (t.lens++[V])):=by show _=_;rw[MM.out];rfl
      clear MM rI
      go_wp2_with fail;go_roundg (gk-1)
      case measure=>have:=y.out;omega
      case rel=>exact LG.out _ Cm.out
    rw[rI]at MM;by_cases yC:V=0
    · have Cm:Hid (false= !gQ (t.lens++[V])):=by show _=_;rw[MM.out,yC];rfl
      have ew:¬(0:Int)<V:=ω;clear MM rI;subst yC
      go_wp2_with fail;go_roundg (gk-1)
      case measure=>have:=y.out;omega
      case rel=>exact LG.out _ Cm.out
    have Cm:Hid (true= !gQ (t.lens++[V])):=by
     show _=_;have:(V==0)=false:=by simpa using yC
     rw[MM.out,this];rfl
    have ew:(0:Int)<V:=ω;clear MM rI yC
    go_wp2_with fail;go_roundg (gk-1)
    case measure=>have:=y.out;omega
    case rel=>exact LG.out _ Cm.out
  obtain rfl:j=C1:=ω;clear fd fb fa hj y ef;obtain⟨z,bi⟩ :=ν (t.lens);rw[<-S.out,bi]at gg;have be:bU .i64 wr wr.heap.size (some ⟨go+1,0,none⟩) 19 (iD z):= ⟨(mS z).symm,(gg.rd (B:=wr.heap.size) gg.lt (ag 19)).congr λq hq=>TR hq⟩;have PE:=η (Dn (t:=t) f (by have:=S.out;have:=bs.out.2.2;omega));have LD:=η (Ii (t:=t) f (by have:=S.out;have:=bs.out.2.2;omega));rw[bi]at PE LD⊢;have gs:=η bi;have ej:=gg.lt;have ct:=λW (hW:bU .i64 W wr.heap.size (some ⟨go+1,0,none⟩) 19 (iD z))=>uL (some ⟨go+1,0,none⟩) 19 19 _ (iD z) 7 W hW ω;have ab:=η (ct wr be);have Cu:=M.cell.cell (i:=1) ω;have ev:=M.cell.frozen' (i:=1) ω;have Uc:Hid (bV w c (wr.setCell ⟨g,1,none⟩ (.int .i64 3)) b0 g { R1 with E:=3 }):=bV.fp M hD (M.refl.put (i:=1) ω (.int .i64 3) { R1 with E:=3 } (fM rfl rfl rfl rfl rfl rfl rfl rfl rfl rfl rfl rfl rfl) rfl);clear bi f ct gg bt bp bo AJ AE nH;by_cases tK:bb (iD z) 7=0
  rotate_left
  · have hs3:=η (PE.out (.inl tK));obtain⟨E7,dd⟩ :=ν (bb (iD z) 7);rw[dd]at ab tK;have Ce:(E7==0)=false:=by simpa using tK
    generalize gQ z=nbv;clear dd PE LD;cases nbv
    all_goals
     go_wp2_with fail;refine ab.out.mono ?_;rintro e H ⟨rfl,rfl⟩
     go_wp2_with fail;go_ret;exact iJ.bad F hs3.out δ δ Uc.out ⟨a.out,a.kinds,a.stops,a.aj,rfl⟩
  cases Fg:gQ z
  · have hs3:=η (LD.out (by rw[tK,Fg];simp));have Xd:=η tK;rw[tK]at ab;clear tK Fg PE LD Uc
    go_wp2_with fail;refine ab.out.mono ?_;rintro e H ⟨rfl,rfl⟩
    go_wp2_with fail;refine(uM _ _ _ _ _ _ be (ag _) ω).mono ?_;rintro e w7 ⟨gc,rfl,qg,pB,Xs⟩
    have bl:c' gc=0:=by
     by_cases e:c' gc=0
     · exact e
     have:=(M.cb _ e).2;omega
    have en:gc<w7.heap.size:=by
     obtain⟨ad,e,hb, -⟩ :=qg.at_ (i:=0) ω;injection e with e;subst e;exact hb
    have cx:XY w b0 g c (go+1) gc (iD z) R1 none 0 0 [] w7 c':= ⟨aW.dK,M.keeps pB,hD.step M.lo (λk y=>(M.cb k y).1) (bj.bA pB) (λ_ _=>rfl),ck.out,bl,λq hq=>by simp [ai]at hq,(be.below pB).more pB.size,qg,aD ej pB.size,en⟩
    have Fa:Hid (∃k,LnR w b0 g c R s A1 O (go+1) gc (iD z) k (.slice none 0 0) w7):=by
     have J:=hO.step (.inl (by rw[hs3.out]));have I:=IS.Steps.tail F (by rw[hs3.out]);rw[hs3.out]at J I;exact⟨_,R1,_,c',none,0,0,rfl,cx,I, ⟨a.x,a.le,a.out,a.kinds,a.stops,a.aj,a.most,a.E,a.bit,a.len,a.even,a.small,a.tk⟩,J,rfl,rfl, ⟨cl.out.1,cl.out.2.1,rfl⟩,G⟩
    obtain⟨k0,Fa⟩ :=Fa.out;have dl:=η Fa;clear Fa cx qg M hD a hO be Cu ev F G hs3
    go_wp2_with fail;go_loopg [16] k0 (LnR w b0 g c R s A1 O (go+1) gc (iD z))
    case atStart=>exact dl.out
    clear dl;obtain⟨d,b,c2,Al,n,cp,rfl,hN,F,a,hO,f,y,Lj,G⟩ :=hrel;have fX:n=b.lens.length:=hN.own.1;obtain⟨q1,q2,q3,q4⟩ :=hO.h5 f;have Ie:=Lj.out;have xj:(0:Int)<=n/\(n:Int)<=320:=ω;have tZ:=η fX;have dk:=η f;have gr:=η q1;have uo:bb (iD z) 7=0:=Xd.out
    have mf:∀i,i<19->0<=ix (iD z) i/\ix (iD z) i<=15:=λi hi=>by
     have:0<=ix (iD z) i/\ix (iD z) i<=7:=by
      apply Classical.byContradiction
      intro dz;rw[ue (by rw[mS];exact hi) dz]at uo;exact absurd uo δ
     omega
    have cA:=a.len;have Ls:=a.le;have Qg:b.x.length=d.X.length-d.at_:=by rw[<-a.x,av]
    by_cases fA:(n:Int)<(A1:Int)+(O:Int)
    rotate_left
    · have ea:n=A1+O:=ω;have bB:=η (IL f ω);have eL:=hN.own.2.jD;have Qa:=dV (P:=Tryz.prog) 63 3 Tryz.underlying63 Hi.out fY.out Al n cp (j:=A1) ω;have Fj:=dc (P:=Tryz.prog) 63 3 Tryz.underlying63 Hi.out fY.out Al n cp (j:=A1) ω;have y8:=hN.ref.cell.frozen' (i:=8) ω;have x8:=hN.ref.cell.cell (i:=8) ω;have Di:=hN.ref.put (i:=8) ω (.slice Al A1 cp) { d with Al:= .slice Al A1 cp } (fM rfl rfl rfl rfl rfl rfl rfl rfl rfl rfl rfl rfl rfl) rfl;have y9:=Di.cell.frozen' (i:=9) ω;have x9:=Di.cell.cell (i:=9) ω;have YO:=Di.put (i:=9) ω (.slice (dx Al cp A1) (n-A1) (cp-A1)) { d with Al:= .slice Al A1 cp,Ad:= .slice (dx Al cp A1) (n-A1) (cp-A1) } (fM rfl rfl rfl rfl rfl rfl rfl rfl rfl rfl rfl rfl rfl) rfl;have PY:ai Al≠some g:=λe=>by have:=(hN.row g e).1;rw[hN.ref.cg]at this;exact absurd this δ
      obtain⟨w9,ac⟩ :=ν ((wr.setCell ⟨g,8,none⟩ (.slice Al A1 cp)).setCell ⟨g,9,none⟩ (.slice (dx Al cp A1) (n-A1) (cp-A1)));have UK:aW .i64 w9 w.heap.size 3 Al n cp b.lens:=by rw[<-ac];exact(hN.own.far (p:= ⟨g,8,none⟩) PY _).far (p:= ⟨g,9,none⟩) PY _
      have cH:bj wr w9 (λk=>c2 k≠0):=by
       rw[<-ac];exact((bj.refl wr (λk=>c2 k≠0)).setCell (p:= ⟨g,8,none⟩) (.inl (by rw[hN.ref.cg];decide)) _).setCell (p:= ⟨g,9,none⟩) (.inl (by rw[hN.ref.cg];decide)) _
      have Ct:DE b0 w c w9 c2:=hN.de.step hN.ref.lo (λk y=>(hN.ref.cb k y).1) cH (λ_ _=>rfl);rw[ac]at YO;have bx:=η ac;obtain⟨E1,ci⟩ :=ν (bb (b.lens.take b.c0) 15);obtain⟨E2,ch⟩ :=ν (bb (b.lens.drop b.c0) 15);have su:bU .i64 w9 w9.heap.size Al A1 (b.lens.take b.c0):=by rw[Ie.1];exact UK.rd.pre ω
      have tL:bU .i64 w9 w9.heap.size (dx Al cp A1) (n-A1) (b.lens.drop b.c0):=by rw[Ie.1];exact UK.rd.dx ω eL
      have YE:=uL Al A1 cp _ (b.lens.take b.c0) 15 w9 su ω;have cj:=uL (dx Al cp A1) (n-A1) (cp-A1) _ (b.lens.drop b.c0) 15 w9 tL ω;rw[ci]at YE;rw[ch]at cj;have Et:=η YE;have xK:=η cj;obtain⟨ad,ap,et,Kw⟩ :=su.at_ (i:=256) ω;obtain⟨x,hx⟩ :=ν (ix b.lens 256)
      have a4Q:w9.cell? ⟨ad.block,ad.off+256,none⟩ =some (.int .i64 x):=by
       have e:ix (b.lens.take b.c0) 256=x:=by rw[<-hx];unfold ix;rw[aq,aq,ib,ae ω]
       rw[<-e,<-GL ad (k:=256) ω];exact Kw
      have k8:=YO.cell.cell (i:=8) ω;rw[show sF { d with Al:= .slice Al A1 cp,Ad:= .slice (dx Al cp A1) (n-A1) (cp-A1) } 8= .slice Al A1 cp from rfl,ap]at k8;have k9:=YO.cell.cell (i:=9) ω;rw[show sF { d with Al:= .slice Al A1 cp,Ad:= .slice (dx Al cp A1) (n-A1) (cp-A1) } 9= .slice (dx Al cp A1) (n-A1) (cp-A1) from rfl]at k9;have k1:=YO.cell.cell (i:=1) ω;have y1:=YO.cell.frozen' (i:=1) ω;have gt:=η ap;have kh:=η bB.out;rw[ci,ch,hx]at kh;have jK:Hid (bV w c (w9.setCell ⟨g,1,none⟩ (.int .i64 3)) b0 g { d with Al:= .slice Al A1 cp,Ad:= .slice (dx Al cp A1) (n-A1) (cp-A1),E:=3 }):=bV.fp YO Ct (YO.refl.put (i:=1) ω (.int .i64 3) { d with Al:= .slice Al A1 cp,Ad:= .slice (dx Al cp A1) (n-A1) (cp-A1),E:=3 } (fM rfl rfl rfl rfl rfl rfl rfl rfl rfl rfl rfl rfl rfl) rfl)
      have dy:0<n-A1->∀ad,dx Al cp A1=some ad->c2 ad.block=0:=λ_ wQ e=>by
       have r:wQ.block=(Al.getD ⟨0,0,none⟩).block/\Al.isSome:=by
        unfold dx at e;rw[ap]at e⊢;split at e <;> (injection e with e;subst e)
        all_goals first
         | exact⟨rfl,rfl⟩
         | exact⟨bH _ _,rfl⟩
       rw[r.1];refine(hN.row _ ?_).1;rw[ap];rfl
      have kC:Hid (¬(E1≠0\/E2≠0\/x=0)->iJ w b0 g c R s (.returned (.bool true)) w9):=λhg=>by
       have v:=kh.out.trans (aa hg);have J:=hO.step (.inl (by rw[v]));have I:=IS.Steps.tail F (by rw[v]);rw[v]at J I;have cs:=λq hq=>(hN.row q hq).1;exact .inl ⟨_,_,c2,Al,A1,cp,dx Al cp A1,n-A1,cp-A1,rfl,YO,Ct,I,rfl,J, ⟨a.x,a.le,a.out,a.kinds,a.stops,a.aj,a.most,a.E,a.bit,a.len,a.even,a.small,a.tk⟩,rfl,rfl,su,tL,λ_ wQ e=>cs _ (by rw[e];rfl),dy, ⟨G.X,G.kinds,G.stops,G.le⟩⟩
      have fv:(256:Int)<(A1:Int):=ω;clear ac ci ch hx ap Kw f bB UK cH Ct YO Di su tL YE cj ea Ie q1 q2 q3 q4 mf uo fX Qg Ls cA eL;by_cases hg:E1≠0\/E2≠0\/x=0
      rotate_left
      · have HG:=η (kC.out hg);have r:E1=0:=bO.1 λh=>hg (.inl h);have U:E2=0:=bO.1 λh=>hg (.inr (.inl h));have h3:¬x=0:=λh=>hg (.inr (.inr h));have ge:(x==0)=false:=by simpa using h3
        clear hg kC kh;subst r U
        go_wp2_with fail;rw[bx.out];refine Et.out.mono ?_;rintro e JI ⟨rfl,rfl⟩
        go_wp2_with fail;refine xK.out.mono ?_;rintro e cm ⟨rfl,rfl⟩
        go_wp2_with fail;go_ret;exact HG.out
      have v:=η (kh.out.trans (ae hg));have cd:E1≠0\/(E1=0/\E2≠0)\/(E1=0/\E2=0/\x=0):=ω;clear hg kC kh;rcases cd with r | ⟨r,U⟩ | ⟨r,U,h3⟩
      · have RB:(E1==0)=false:=by simpa using r
        go_wp2_with fail;rw[bx.out];refine Et.out.mono ?_;rintro e JI ⟨rfl,rfl⟩
        go_wp2_with fail;go_ret;exact iJ.bad F v.out δ δ jK.out ⟨a.out,a.kinds,a.stops,a.aj,rfl⟩
      · have gf:(E2==0)=false:=by simpa using U
        subst r
        go_wp2_with fail;rw[bx.out];refine Et.out.mono ?_;rintro e JI ⟨rfl,rfl⟩
        go_wp2_with fail;refine xK.out.mono ?_;rintro e cm ⟨rfl,rfl⟩
        go_wp2_with fail;go_ret;exact iJ.bad F v.out δ δ jK.out ⟨a.out,a.kinds,a.stops,a.aj,rfl⟩
      subst r U h3
      go_wp2_with fail;rw[bx.out];refine Et.out.mono ?_;rintro e JI ⟨rfl,rfl⟩
      go_wp2_with fail;refine xK.out.mono ?_;rintro e cm ⟨rfl,rfl⟩
      go_wp2_with fail;go_ret;exact iJ.bad F v.out δ δ jK.out ⟨a.out,a.kinds,a.stops,a.aj,rfl⟩
    have xp:Hid (b.step=b.length):=IE f ω;unfold IS.length at xp;obtain⟨K,hK⟩ :=ν ((aI b.hd b.x).1);obtain⟨N,Dj⟩ :=ν ((aI b.hd b.x).2.1);obtain⟨E,hE⟩ :=ν ((aI b.hd b.x).2.2);have gU:Hid (E=0\/E=3\/E=5):=by have:=eV b.hd b.x;rw[hE]at this;exact this
    have oC:Hid (E=0->0<=K/\K<19/\N<=b.x.length):=λh=>by
     obtain⟨k2,n2,e1,e2,e3,e4,e5⟩ :=lT (l:=b.hd) (x:=b.x) hO.bit (by rw[hE,h];simp);rw[e1]at hK Dj;simp at hK Dj;omega
    have cv:aI b.hd b.x=(K,N,E):=by rw[<-hK,<-Dj,<-hE]
    rw[hK,Dj,hE]at xp;have Qc:=Bw hN.ref.refl (some ⟨go+1,0,none⟩) (some ⟨gc,0,none⟩) 19 19 19 (iD z) hN.rH hN.rC ω mf ω a.bit Ls K N E (by rw[a.x,<-Ie.2.2];exact cv);have OD:=η Qc;clear hK Dj hE cv Qc mf uo fX f q1 q2 q3 q4 Ie Ls cA;by_cases nK:E=0
    rotate_left
    · have hs3:=η (xp.out.trans (ae nK))
      have sB:Calls Tryz.prog 72 #[.pointer (some ⟨g,0,none⟩), .slice (some ⟨go+1,0,none⟩) 19 19, .slice (some ⟨gc,0,none⟩) 19 19] wr λe w'=>e= .returned (.tuple #[.int .i64 0, .bool false])/\bV wr c2 w' b0 g { d with E:=E }:=by
       refine OD.out.mono ?_;rintro e w' (⟨r, -⟩ | ⟨-,r,U⟩)
       · exact absurd r nK
       exact⟨r,U⟩
      have Kf:=η sB;have h8:E≠8:=by rcases gU.out with e | e | e <;> omega
      have Gi:=η nK;have fn:=η h8;clear xp oC gU OD sB nK h8 Qg
      go_wp2_with fail;refine Kf.out.mono ?_;rintro e H ⟨rfl,h6⟩
      go_wp2_with fail;go_ret;exact iJ.bad F hs3.out Gi.out fn.out (bV.fp hN.ref hN.de h6) ⟨a.out,a.kinds,a.stops,a.aj,rfl⟩
    subst nK;obtain⟨I0,YN,gi⟩ :=oC.out rfl;have je:=η (xp.out.trans (aa δ));have D:Hid (d.X.drop (d.at_+N)=b.x.drop N):=by show _=_;rw[<-a.x,bm]
    have pj:Hid (d.at_+N<=d.X.length):=by show _<=_;have:=a.le;omega
    have sB:Calls Tryz.prog 72 #[.pointer (some ⟨g,0,none⟩), .slice (some ⟨go+1,0,none⟩) 19 19, .slice (some ⟨gc,0,none⟩) 19 19] wr λe w'=>e= .returned (.tuple #[.int .i64 K, .bool true])/\bV wr c2 w' b0 g { d with at_:=d.at_+N }:=by
     refine OD.out.mono ?_;rintro e w' (⟨-,r,U⟩ | ⟨r, -⟩)
     · exact⟨r,U⟩
     exact absurd rfl r
    have Kf:=η sB;have o:nX { d with at_:=d.at_+N } { b with x:=b.x.drop N }:= ⟨D.out,pj.out,a.out,a.kinds,a.stops,a.aj,a.most,a.E,a.bit,a.len,a.even,a.small,au a.tk (by show d.at_<=d.at_+N;omega)⟩;have ec:Ey R { d with at_:=d.at_+N }:= ⟨G.X,G.kinds,G.stops,au G.le (by show d.at_<=d.at_+N;omega)⟩;clear xp oC gU OD sB Qg
    go_wp2_with fail;refine Kf.out.mono ?_;rintro e H ⟨rfl,h6⟩;obtain⟨c6,L⟩ :=hN.turn h6;clear h6;by_cases F0:K<16
    · have v:=η (je.out.trans (ae F0));have iY:=L.own.alloc (.cells #[.int .i64 K] 3);have mb:=L.de.2.1.size;have bX:Hid (b.step.1.mu<b.mu):=IS.jG (by rw[v.out]);clear je
      go_wp2_with (at_builtin;(refine ba .i64 w.heap.size 3 i0 8 rfl (.tmp 124) (.tmp 126) _ rfl Tryz.underlying63 Hi.out gV.out fY.out gW.out rfl iY rfl (bU.lit .i64 H [K] 3) ω ω ξ ?_)
                   intro A4 d4 w4 bE cc dP)
      have Xp:=L.push Gq K cc bE dP;go_roundg b.step.1.mu
      case measure=>have:=y.out;have:=bX.out;omega
      have J:=hO.step (.inl (by rw[v.out]));have I:=IS.Steps.tail F (by rw[v.out]);rw[v.out]at J I⊢;exact⟨_,_,c6,A4,n+1,d4,rfl,Xp,I, ⟨o.x,o.le,o.out,o.kinds,o.stops,o.aj,o.most,o.E,o.bit,o.len,o.even,o.small,o.tk⟩,J,dk.out,rfl,Lj.out,ec⟩
    have kh:=η (je.out.trans (aa F0));have ca:K=16\/K=17\/K=18:=ω;clear je;obtain⟨Bd,JR⟩ :=ν (decide (K=16/\b.lens.length=0));have oF:=η JR;clear JR;go_upto_region 35 with fail
    go_cut [134] (λs wx=>s= .bool Bd/\wx=H)
    case first=>
     by_cases Z:K=16
     · by_cases sr:n=0
       · have hd:Hid (true=Bd):=by show _=_;rw[<-oF.out];exact(aS ⟨Z,by rw[<-tZ.out];exact sr⟩).symm
         clear oF;subst Z sr
         go_wp2_with fail;go_meet;exact⟨aL Value.bool hd.out,rfl⟩
       have hd:Hid (false=Bd):=by show _=_;rw[<-oF.out];exact(aO λh=>sr (by rw[tZ.out];exact h.2)).symm
       have LA:((n:Int)==0)=false:=ξ;clear sr oF;subst Z
       go_wp2_with fail;go_meet;exact⟨aL Value.bool hd.out,rfl⟩
     have hd:Hid (false=Bd):=by show _=_;rw[<-oF.out];exact(aO λh=>Z h.1).symm
     have ee:(K==16)=false:=by simpa using Z
     clear Z oF
     go_wp2_with fail;go_meet;exact⟨aL Value.bool hd.out,rfl⟩
    rename World=>wc
    obtain⟨rfl,rfl⟩ :=hcut;by_cases oh:K=16/\b.lens.length=0
    · have v:=η (kh.out.trans (ae oh));rw[<-oF.out,aS oh];have x1:=L.ref.cell.cell (i:=1) ω;have y1:=L.ref.cell.frozen' (i:=1) ω;have h7:=bV.fp L.ref L.de (L.ref.refl.put (i:=1) ω (.int .i64 2) { d with at_:=d.at_+N,E:=2 } (fM rfl rfl rfl rfl rfl rfl rfl rfl rfl rfl rfl rfl rfl) rfl);clear oh kh ca F0
      go_wp2_with fail;go_ret;exact iJ.bad F v.out δ δ h7 ⟨a.out,a.kinds,a.stops,a.aj,rfl⟩
    have kR:=η (kh.out.trans (aa oh));rw[<-oF.out,aO oh];have vM:K=16->0<n:=λh=>by have:=tZ.out;omega
    clear kh oh oF;obtain⟨W,hW⟩ :=ν (IS.rW K);obtain⟨Bs,Xl⟩ :=ν (IS.rB K);have da:W<=7/\Bs<=11:=by rw[<-hW,<-Xl];rcases ca with rfl | rfl | rfl <;> decide
    have Gl:=η (And.intro hW Xl);rw[hW]at kR;clear hW Xl;obtain⟨W1,bv⟩ :=ν ((if K=17 then 3 else 2):Nat)
    have Xi:Hid ((K=17->W1=3/\W=3/\Bs=3)/\(K=18->W=7/\Bs=11)/\(K=16->W1=2/\W=2/\Bs=3)):=by
     refine⟨λh=> ?_,λh=> ?_,λh=> ?_⟩
     · subst h;rw[<-bv,<-Gl.out.1,<-Gl.out.2];exact⟨rfl,rfl,rfl⟩
     · subst h;rw[<-Gl.out.1,<-Gl.out.2];exact⟨rfl,rfl⟩
     subst h;rw[<-bv,<-Gl.out.1,<-Gl.out.2];exact⟨rfl,rfl,rfl⟩
    have OH:Hid (K≠17->W1=2):=λh=>by rw[<-bv,aa h]
    clear bv
    go_upto_if 139 with fail
    go_cut [19] (λbI wx=>bI= .int .i64 W1/\wx=wc)
    case first=>
     by_cases aE:K=17
     · have hf:Hid (Value.int .i64 3=Value.int .i64 (W1:Int)):=by show _=_;rw[(Xi.out.1 aE).1];rfl
       clear Xi OH Gl;subst aE
       go_wp2_with fail;go_meet;exact⟨hf.out,rfl⟩
     have hf:Hid (Value.int .i64 2=Value.int .i64 (W1:Int)):=by show _=_;rw[OH.out aE];rfl
     have gm:(K==17)=false:=by simpa using aE
     clear Xi OH Gl aE
     go_wp2_with fail;go_meet;exact⟨hf.out,rfl⟩
    obtain⟨rfl,rfl⟩ :=hcut
    go_upto_if 141 with fail
    go_cut [19,20] (λbI ds wx=>bI= .int .i64 W/\ds= .int .i64 Bs/\wx=wc)
    case first=>
     by_cases Y:K=18
     · have hf:Hid (Value.int .i64 7=Value.int .i64 (W:Int)/\Value.int .i64 11=Value.int .i64 (Bs:Int)):=by show _/\_;rw[(Xi.out.2.1 Y).1,(Xi.out.2.1 Y).2];exact⟨rfl,rfl⟩
       clear Xi OH Gl;subst Y
       go_wp2_with fail;go_meet;exact⟨hf.out.1,hf.out.2,rfl⟩
     have hf:Hid (Value.int .i64 (W1:Int)=Value.int .i64 (W:Int)/\Value.int .i64 3=Value.int .i64 (Bs:Int)):=by
      show _/\_;rcases ca with h | h | h
      · obtain⟨a1,a2,a3⟩ :=Xi.out.2.2 h;rw[a1,a2,a3];exact⟨rfl,rfl⟩
      · obtain⟨a1,a2,a3⟩ :=Xi.out.1 h;rw[a1,a2,a3];exact⟨rfl,rfl⟩
      exact absurd h Y
     have gl:(K==18)=false:=by simpa using Y
     clear Xi OH Gl Y
     go_wp2_with fail;go_meet;exact⟨hf.out.1,hf.out.2,rfl⟩
    obtain⟨rfl,rfl,rfl⟩ :=hcut;have ZX:(b.x.drop N).length=d.X.length-(d.at_+N):=by rw[<-D.out,av]
    have cz:=a.len;by_cases am:(b.x.drop N).length<W
    · have v:=η (kR.out.trans (ae am));have ht:=η (nV L.ref.refl W ω (by show d.X.length<=_;omega) pj.out (by show d.X.length<d.at_+N+W;omega));clear am ZX kR cz vM
      go_wp2_with fail;refine ht.out.mono ?_;rintro e w7 ⟨rfl,h7⟩
      go_wp2_with fail;go_ret;exact iJ.bad F v.out δ δ (bV.fp L.ref L.de h7) ⟨a.out,a.kinds,a.stops,a.aj,rfl⟩
    have jR:=η (kR.out.trans (aa am));unfold IS.ku at jR;have Vg:=gD (hO.bit.dX N) W;have Xw:2 ^ W<=2 ^ 7:=bq ω da.1;obtain⟨V,hV⟩ :=ν (num (b.x.drop N) W);have ht:=η (jT L.ref.refl W ω (by show d.X.length<=_;omega) a.bit (by show d.at_+N+W<=d.X.length;have:=pj.out;omega) (V:Int) (by show _=((num (d.X.drop (d.at_+N)) W:Nat):Int);rw[D.out,hV]));rw[hV]at Vg;obtain⟨T,hT⟩ :=ν (Bs+V);obtain⟨KK,ce⟩ :=ν ((if K=16 then ix b.lens (b.lens.length-1)else 0):Int);rw[Gl.out.1,Gl.out.2,hV,hT,ce]at jR;have ex:(Bs:Int)+(V:Int)=(T:Int):=ω;have gh:(0:Int)<=T/\(T:Int)<=200/\(0:Int)<=V/\(V:Int)<=128/\(0:Int)<=Bs/\(Bs:Int)<=11:=ω;have RQ:Hid (d.X.drop (d.at_+N+W)=(b.x.drop N).drop W):=by show _=_;rw[<-D.out,bm]
    have dP:Hid (d.at_+N+W<=d.X.length):=by show _<=_;have:=pj.out;omega
    have C8:=η ce;clear am ZX kR cz Vg Xw hV hT ce da Gl Xi OH
    go_wp2_with fail;refine ht.out.mono ?_;rintro e w7 ⟨rfl,h7⟩;obtain⟨c7,Xp⟩ :=L.turn h7;clear h7 L
    go_upto_if 154 with fail
    go_cut [23] (λdq wx=>dq= .int .i64 KK/\wx=w7)
    case first=>
     by_cases Z:K=16
     · obtain⟨m,hm⟩ :∃m,n=m+1:= ⟨n-1,by have:=vM Z;omega⟩;subst hm;obtain⟨ad,rfl,et,c1⟩ :=Xp.own.rd.at_ (i:=m) ω;have cD:Hid (ix b.lens m=KK):=by show _=_;rw[<-C8.out,ae Z,<-tZ.out];rfl
       rw[cD.out]at c1;have Gu:(0:Int)<=m/\(m:Int)<=400:=ω;clear C8 vM cD;subst Z
       go_wp2_with fail;go_meet;exact⟨rfl,rfl⟩
     have ee:(K==16)=false:=by simpa using Z
     have hz:Hid (Value.int .i64 0=Value.int .i64 KK):=by show _=_;rw[<-C8.out,aa Z]
     clear C8 vM Z
     go_wp2_with fail;go_meet;exact⟨hz.out,rfl⟩
    obtain⟨rfl,rfl⟩ :=hcut;clear vM C8 ex;by_cases kg:(A1:Int)+(O:Int)<(n:Int)+(T:Int)
    · have v:=η (jR.out.trans (ae (by have r:=Lj.out.1;have U:=Lj.out.2.1;have h3:=tZ.out;omega)));have x1:=Xp.ref.cell.cell (i:=1) ω;have y1:=Xp.ref.cell.frozen' (i:=1) ω;have h8:=bV.fp Xp.ref Xp.de (Xp.ref.refl.put (i:=1) ω (.int .i64 2) { d with at_:=d.at_+N+W,E:=2 } (fM rfl rfl rfl rfl rfl rfl rfl rfl rfl rfl rfl rfl rfl) rfl);clear jR
      go_wp2_with fail;go_ret;exact iJ.bad F v.out δ δ h8 ⟨a.out,a.kinds,a.stops,a.aj,rfl⟩
    have v:=η (jR.out.trans (aa (by have r:=Lj.out.1;have U:=Lj.out.2.1;have h3:=tZ.out;omega)));clear jR;have cE:Hid (RpR w b0 g c (go+1) gc (iD z) { d with at_:=d.at_+N+W } b.lens KK T c7 T (.slice Al n cp) (.int .i64 0) wc):= ⟨0,Al,n,cp,aF _,rfl,rfl,rfl,by rw[List.replicate_zero,ax];exact Xp⟩;clear Xp
    go_wp2_with fail;go_loopg [16,24] T (RpR w b0 g c (go+1) gc (iD z) { d with at_:=d.at_+N+W } b.lens KK T c7)
    case atStart=>exact cE.out
    clear cE;obtain⟨jj,A3,n3,fi,Zq,cB,rfl,rfl,ao⟩ :=hrel;by_cases ga:(jj:Int)<(T:Int)
    · have za:n3=(b.lens++List.replicate jj KK).length:=ao.own.1;rw[af,aQ,<-tZ.out]at za;have eb:n3+1<=1000000000000:=ω;have iY:=ao.own.alloc (.cells #[.int .i64 KK] 3);have rj:=ao.de.2.1.size;clear za
      go_wp2_with (at_builtin;(refine ba .i64 w.heap.size 3 i0 8 rfl (.tmp 177) (.tmp 179) _ rfl Tryz.underlying63 Hi.out gV.out fY.out gW.out rfl iY rfl (bU.lit .i64 wr [KK] 3) eb ω ξ ?_)
                   intro A4 d4 w4 bE cc jA)
      have ey:=ao.push Gq KK cc bE jA;go_roundg (gk-1)
      case measure=>have:=cB.out;omega
      case rel=>exact⟨jj+1,A4,n3+1,d4,ω,by show gk-1=_;have:=cB.out;omega,by go_num,rfl,by rw[List.replicate_succ',<-ak];exact ey⟩
    obtain rfl:jj=T:=ω;have bX:Hid (b.step.1.mu<b.mu):=IS.jG (by rw[v.out])
    go_wp2_with fail;go_roundg b.step.1.mu
    case measure=>have:=y.out;have:=bX.out;omega
    have J:=hO.step (.inl (by rw[v.out]));have I:=IS.Steps.tail F (by rw[v.out]);rw[v.out]at J I⊢;exact⟨{ d with at_:=d.at_+N+W },_,c7,A3,n3,fi,rfl,ao,I, ⟨RQ.out,dP.out,a.out,a.kinds,a.stops,a.aj,a.most,a.E,a.bit,a.len,a.even,a.small,au a.tk (by show d.at_<=d.at_+N+W;omega)⟩,J,dk.out,rfl,Lj.out, ⟨G.X,G.kinds,G.stops,au G.le (by show d.at_<=d.at_+N+W;omega)⟩⟩
  have hs3:=η (PE.out (.inr Fg));rw[tK]at ab;clear tK Fg PE LD
  go_wp2_with fail;refine ab.out.mono ?_;rintro e H ⟨rfl,rfl⟩
  go_wp2_with fail;go_ret;exact iJ.bad F hs3.out δ δ Uc.out ⟨a.out,a.kinds,a.stops,a.aj,rfl⟩
end
end Go.Proofs.YtdhmnlpfhfmpfaaGreat
