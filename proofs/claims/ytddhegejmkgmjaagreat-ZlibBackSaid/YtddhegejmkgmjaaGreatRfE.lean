/-
  part
-/
import Derived.Test.YtddhegejmkgmjaaGreatPk30
import Derived.Test.YtddhegejmkgmjaaGreatArr
import Derived.Test.YtddhegejmkgmjaaGreatRCheck
namespace Go.Proofs.YtddhegejmkgmjaaGreat
open Go.RowKit
set_option linter.unusedVariables false
set_option maxRecDepth 100000
set_option maxHeartbeats 8000000
section
variable {w w' w0 w2 wr w5:World} {b0 g:Nat} {c c0 c':Nat->Nat} {R R' R1:RM} {s t t':IS} {v:Int}
theorem a2G (x:List Int) (h:bc x) (f:14<=x.length):num x 14%32=num x 5/\num x 14/32%32=num (x.drop 5) 5/\num x 14/1024=num (x.drop 10) 4:=by
 have b:=(rN x h 5 9).resolve_right ω;have a:=(rN (x.drop 5) (h.bu 5) 5 4).resolve_right (by rw[List.length_drop];omega);rw[List.drop_drop]at a;have b:num x 14=num x 5+2 ^ 5*num (x.drop 5) 9:=b;have a:num (x.drop 5) 9=num (x.drop 5) 5+2 ^ 5*num (x.drop 10) 4:=a;have d:=cO h 5;have c:=cO (h.bu 5) 5;have e:(2:Nat) ^ 5=32:=δ;rw[e]at b a d c;refine⟨?_, ?_, ?_⟩ <;> omega
theorem DE.own (hd:DE b0 w0 c0 w c) (b:aq w w' (λk=>w0.heap.size<=k)) (d:b0<=w0.heap.size):DE b0 w0 c0 w' c:=
 ⟨hd.1.trans (b.below (b0:=b0) (λk a=>Nat.le_trans d a) (Nat.le_trans d hd.2.1.size)),hd.2.1.trans b (λk a=> .inr a),hd.2.2⟩
def dK (w:World) (b0 g:Nat) (c:Nat->Nat) (R:RM) (s:IS) (e:Ending) (w':World):Prop:=
 (∃R' t c' Al nl cl Ad b d,e= .returned (.bool true)/\cX w' b0 g c' R'/\DE b0 w c w' c'/\IS.Steps s t/\t.st=6/\t.Ok/\jq R' t/\R'.Al= .slice Al nl cl/\R'.Ad= .slice Ad b d/\aT .i64 w' w'.heap.size Al nl t.lt/\aT .i64 w' w'.heap.size Ad b t.ds/\(0<nl->∀a,Al=some a->c' a.block=0)/\(0<b->∀a,Ad=some a->c' a.block=0)/\yK R R')\/
 (∃R' t v,e= .returned (.bool false)/\az w c w' b0 g R'/\s.fin=(t,v)/\v≠8/\EI R' t v)
theorem dK.bad (a:IS.Steps s t) (h:t.step=(t',v)) (f:v≠0) (e:v≠8) (b:az w c w' b0 g R') (d:EI R' t' v):dK w b0 g c R s (.returned (.bool false)) w':=
 .inr ⟨R',t',v,rfl,b,by rw[<-a.iv,IS.dn (by rw[h];exact f),h],e,d⟩
def HdR (w:World) (b0 g:Nat) (c:Nat->Nat) (R:RM) (s:IS) (A B C:Nat) (d go:Nat) (k:Nat) (b a:Value) (wr:World):Prop:=
 ∃j R' t c',j<=C/\Hid (k=C-j)/\a= .int .i64 j/\b= .bool (!cU t.lens)/\cX wr b0 g c' R'/\DE b0 w c wr c'/\c' d=0/\c' go=0/\IS.Steps s t/\jq R' t/\t.Ok/\t.st=4/\Hid (t.lens.length=j)/\Hid (t.c0=A/\t.c1=B/\t.c2=C)/\Ar wr d 19 (hF t.lens j)/\Ar wr go 19 (λp=> .int .i64 (gG.getD p 0:Nat))/\yK R R'
structure QP (w:World) (b0 g:Nat) (c:Nat->Nat) (gh gc:Nat) (H:List Int) (R:RM) (Al:Option Addr) (n cp:Nat) (l:List Int) (wr:World) (c':Nat->Nat):Prop where
 own:ag .i64 wr w.heap.size 3 Al n cp l
 ref:cX wr b0 g c' R
 de:DE b0 w c wr c'
 cgh:c' gh=0
 cgc:c' gc=0
 row:∀q,aa Al=some q->c' q=0/\q≠gh/\q≠gc
 rH:aT .i64 wr wr.heap.size (some ⟨gh,0,none⟩) 19 H
 rC:aT .u32 wr wr.heap.size (some ⟨gc,0,none⟩) 19 (eh H)
 lh:gh<wr.heap.size
 lc:gc<wr.heap.size
theorem QP.push {p r:Nat} {H l:List Int} {Al i:Option Addr} {n cp o d4:Nat} {f:World} (h:QP w b0 g c p r H R Al n cp l wr c') (u:b0<=w.heap.size) (v:Int) (j:(wr.alloc (.cells #[.int .i64 v] 3)).grownBy f (aa Al)) (s:ag .i64 f w.heap.size 3 i o d4 (l++[v])) (k:aa i=aa Al\/aa i=some (wr.alloc (.cells #[.int .i64 v] 3)).heap.size):
  QP w b0 g c p r H R i o d4 (l++[v]) f c':=by
 have d:aq wr f (λq=>aa Al=some q):=((aq.refl wr (λq=>aa Al=some q)).alloc _).grown j (λq e=> .inl e);have t:∀q,aa Al=some q->w.heap.size<=q:=λq b=>(h.own.2.lt b).1
 have a:=d.size;refine⟨s,h.ref.aside d (λq b=>(h.row q b).1),h.de.own (d.more t) u,h.cgh,h.cgc,λq b=> ?_,(d.oH h.rH (Nat.le_refl _) (λ_ x e m=> ?_)).more a,(d.oH h.rC (Nat.le_refl _) (λ_ x e m=> ?_)).more a,Nat.lt_of_lt_of_le h.lh a,Nat.lt_of_lt_of_le h.lc a⟩
 · rcases k with e | e
   · exact h.row q (by rw[<-e];exact b)
   · rw[e]at b;injection b with b;simp at b;have z:=h.lh;have y:=h.lc;refine⟨?_,ω,ω⟩;by_cases e:c' q=0
     · exact e
     · have:=(h.ref.cb q e).2;omega
 · injection e with e;subst e;exact(h.row _ m).2.1 rfl
 · injection e with e;subst e;exact(h.row _ m).2.2 rfl
theorem QP.turn {m o:Nat} {H l:List Int} {Al:Option Addr} {n cp:Nat} (h:QP w b0 g c m o H R Al n cp l wr c') (p:az wr c' w' b0 g R'):∃j,QP w b0 g c m o H R' Al n cp l w' j:=by
 obtain⟨j,s,f⟩ :=p;have d:=f.2.1;have a:=d.size;refine⟨j,d.bf h.own (λq b e=>e (h.row q b).1),s,h.de.step h.ref.lo (λk r=>(h.ref.cb k r).1) d f.2.2,(f.2.2 _ h.lh).trans h.cgh,(f.2.2 _ h.lc).trans h.cgc,λq b=> ⟨(f.2.2 _ (h.own.2.lt b).2).trans (h.row q b).1,(h.row q b).2⟩,(d.oH h.rH (Nat.le_refl _) (λ_ t e i=> ?_)).more a,(d.oH h.rC (Nat.le_refl _) (λ_ t e i=> ?_)).more a,Nat.lt_of_lt_of_le h.lh a,Nat.lt_of_lt_of_le h.lc a⟩
 · injection e with e;subst e;exact i h.cgh
 · injection e with e;subst e;exact i h.cgc
def LnR (w:World) (b0 g:Nat) (c:Nat->Nat) (R:RM) (s:IS) (A B:Nat) (b d:Nat) (H:List Int) (k:Nat) (a:Value) (wr:World):Prop:=
 ∃R' t c' Al n cp,a= .slice Al n cp/\QP w b0 g c b d H R' Al n cp t.lens wr c'/\IS.Steps s t/\jq R' t/\t.Ok/\t.st=5/\Hid (k=t.mu)/\Hid (t.c0=A/\t.c1=B/\t.hd=H)/\yK R R'
def RpR (w:World) (b0 g:Nat) (c:Nat->Nat) (d e:Nat) (H:List Int) (R1:RM) (l:List Int) (K:Int) (N:Nat) (c':Nat->Nat) (k:Nat) (b a:Value) (wr:World):Prop:=
 ∃j A n cp,j<=N/\Hid (k=N-j)/\a= .int .i64 j/\b= .slice A n cp/\QP w b0 g c d e H R1 A n cp (l++List.replicate j K) wr c'
theorem Ry {l:List Int} {j:Nat} (c:j<19) (b:l.length=j) (V:Int):∀q,q<19->upd (hF l j) (gG.getD j 0) (.int .i64 V) q=hF (l++[V]) (j+1) q:=λq a=>by
 have h:=I8 (l:=l++[V]) (i:=j) c a;have e:ix (l++[V]) j=V:=by rw[aL,if_neg ω,b,Nat.sub_self];rfl
 rw[e]at h;rw[<-h];by_cases hp:q=gG.getD j 0
 · rw[hp,upd_same,upd_same]
 · rw[bm _ _ hp,bm _ _ hp];unfold hF;by_cases hi:gG.idxOf q<j
   · rw[if_pos hi,if_pos hi,aL,if_pos ω]
   · rw[if_neg hi,if_neg hi]
theorem Gk (l:List Int) (V:Int):cU (l++[V])=(cU l&&(V==0)):=by simp [cU]
theorem GM (h:t.step.2=5):t.step=(t,5):=Prod.ext (IS.yl h) h
def Kw (w:World):World:=(w.alloc (.cells (([16,17,18,0,8,7,9,6,10,5,11,4,12,3,13,2,14,1,15]:List Int).map (Value.int .i64)).toArray 3)).alloc (.cells (cn 19 (.int .i64 0)) 3)
theorem Gs (w:World) (l:List Int):Below w.heap.size w (Kw w)/\Ar (Kw w) w.heap.size 19 (λp=> .int .i64 (gG.getD p 0:Nat))/\Ar (Kw w) (w.heap.size+1) 19 (hF l 0):=by
 refine⟨((Below.refl _ w).alloc (Nat.le_refl _) _).alloc σ _, ?_, ?_⟩
 · refine(Ar.new (m:=19) (f:=λp=> .int .i64 (gG.getD p 0:Nat)) w _ 3 rfl (λi hi=> ?_)).alloc _;obtain rfl | rfl | rfl | rfl | rfl | rfl | rfl | rfl | rfl | rfl | rfl | rfl | rfl | rfl | rfl | rfl | rfl | rfl | rfl:i=0\/i=1\/i=2\/i=3\/i=4\/i=5\/i=6\/i=7\/i=8\/i=9\/i=10\/i=11\/i=12\/i=13\/i=14\/i=15\/i=16\/i=17\/i=18:=ω
   all_goals rfl
 · have a:=(Ar.zeros (w.alloc (.cells (([16,17,18,0,8,7,9,6,10,5,11,4,12,3,13,2,14,1,15]:List Int).map (Value.int .i64)).toArray 3)) 19 (.int .i64 0) 3).congr (f':=hF l 0) λp _=>I9 l p
   rw[show(w.alloc (.cells (([16,17,18,0,8,7,9,6,10,5,11,4,12,3,13,2,14,1,15]:List Int).map (Value.int .i64)).toArray 3)).heap.size=w.heap.size+1 by simp]at a;exact a
theorem AQ (h:cX w b0 g c R) (a:jq R s) (hO:s.Ok) (f:s.st=3):
  Calls Tryz.prog 42 #[.pointer (some ⟨g,0,none⟩)] w (dK w b0 g c R s):=by
 obtain⟨i0,hi,bp,bo,bn⟩ :=info_parts iF;have Hi:=η hi;have dM:=η bp;have cV:=η bo;have dN:=η bn;have ds:=a.len;have dz:=a.le;have u:Hid (s.step=s.sizes):=by show _=_;unfold IS.step;rw[if_neg ω,if_neg ω,if_neg ω,if_pos f]
 unfold IS.sizes at u;have k1:=h.cell.cell (i:=1) ω;have z1:=h.cell.frozen' (i:=1) ω;have k5:=h.cell.cell (i:=5) ω;have k6:=h.cell.cell (i:=6) ω;rw[show sF R 5= .slice R.Ab R.nb R.cb from rfl]at k5;rw[show sF R 6= .int .i64 (R.at_:Nat) from rfl]at k6;obtain⟨e,he⟩ :=ν (R.at_+14);have hw:IntKind.i64.wrap ((R.at_:Int)+14)=(e:Int):=by rw[IntWalk.i64_in _ ω];omega
 have mC:R.nb=R.X.length:=h.bits.1;have bx:s.x.length=R.X.length-R.at_:=by rw[<-a.x,List.length_drop]
 have hS:=h.refl;have eg:=η f;clear hi bp bo bn;by_cases ac:(R.nb:Int)<(e:Int)
 · have G:=η (u.out.trans (if_pos ω));have r:=hS.drew.put (i:=1) ω (.int .i64 5) { R with E:=5 } (cu rfl rfl rfl rfl rfl rfl rfl rfl rfl rfl rfl rfl rfl) rfl;clear he mC bx u f;go_enter Tryz.func42,Tryz.ntmps42
   go_wp2_with fail
   go_region
   all_goals
    go_wp2_with fail
    go_ret
    exact dK.bad (.refl s) G.out δ δ r ⟨a.out,a.kinds,a.stops,a.a8,rfl⟩
 · have S:=η (u.out.trans (if_neg ω));have oU:bc s.x:=hO.bit;obtain⟨n1,n2,n3⟩ :=a2G s.x oU ω;have l1:=cO oU 5;have l2:=cO (oU.bu 5) 5;have l3:=cO (oU.bu 10) 4;obtain⟨A,hA⟩ :=ν (num s.x 5);obtain⟨B,hB⟩ :=ν (num (s.x.drop 5) 5);obtain⟨C,hC⟩ :=ν (num (s.x.drop 10) 4);rw[n1,n2,n3,hA,hB,hC]at S;have pO:=η (fg hS.drew 5 ω ω a.bit ω (A:Int) (by rw[a.x,hA]));have Iw:=λW (hW:az w c W b0 g { R with at_:=R.at_+5 })=>fg hW 5 ω (by show R.X.length<=_;omega) a.bit (by show R.at_+5+5<=R.X.length;omega) (B:Int) (by show _=((num (R.X.drop (R.at_+5)) 5:Nat):Int);rw[<-List.drop_drop,a.x,hB])
   have Kf:=λW (hW:az w c W b0 g { R with at_:=R.at_+5+5 })=>fg hW 4 ω (by show R.X.length<=_;omega) a.bit (by show R.at_+5+5+4<=R.X.length;omega) (C:Int) (by show _=((num (R.X.drop (R.at_+5+5)) 4:Nat):Int);rw[Nat.add_assoc,<-List.drop_drop,a.x,hC])
   have Q4:=η Iw;have Vl:=η Kf;have e5:(2:Nat) ^ 5=32:=δ;have e4:(2:Nat) ^ 4=16:=δ;rw[hA,e5]at l1;rw[hB,e5]at l2;rw[hC,e4]at l3;obtain⟨A1,qM⟩ :=ν (A+257);obtain⟨Q,Fw⟩ :=ν (B+1);obtain⟨C1,Rv⟩ :=ν (C+4);rw[qM,Fw,Rv]at S;have dl:(A:Int)+257=(A1:Int):=ω;have dk:(B:Int)+1=(Q:Int):=ω;have dj:(C:Int)+4=(C1:Int):=ω;have fH:(0:Int)<=A/\(A:Int)<32/\(0:Int)<=B/\(B:Int)<32/\(0:Int)<=C/\(C:Int)<16:=ω;have ec:(257:Int)<=A1/\(A1:Int)<=288/\(1:Int)<=Q/\(Q:Int)<=32/\(4:Int)<=C1/\(C1:Int)<=19:=ω;have cl:Hid (R.X.drop (R.at_+5+5+4)=s.x.drop 14):=by show _=_;rw[<-a.x,List.drop_drop]
   have cZ:Hid (R.at_+5+5+4<=R.X.length):=by show _<=_;omega
   clear n1 n2 n3 hA hB hC e5 e4 qM Fw Rv l1 l2 l3 he mC bx u f Iw Kf;by_cases eK:(286:Int)<A1\/(30:Int)<Q
   · have ab:=η (S.out.trans (if_pos ω));have bl:(286:Int)<A1\/(¬(286:Int)<A1/\(30:Int)<Q):=ω;clear eK S;rcases bl with r | ⟨r,U⟩
     all_goals
      go_enter Tryz.func42,Tryz.ntmps42
      go_wp2_with fail
      go_region
      all_goals
       go_wp2_with fail
       refine pO.out.mono ?_;rintro e w3 ⟨rfl,h3⟩
       go_wp2_with fail
       refine(Q4.out _ h3).mono ?_;rintro e w4 ⟨rfl,h4⟩
       go_wp2_with fail
       refine(Vl.out _ h4).mono ?_;rintro e w5 ⟨rfl,h5⟩;have j1:=h5.cell.cell (i:=1) ω;have y1:=h5.cell.frozen' (i:=1) ω;have h6:=h5.put (i:=1) ω (.int .i64 2) { R with at_:=R.at_+5+5+4,E:=2 } (cu rfl rfl rfl rfl rfl rfl rfl rfl rfl rfl rfl rfl rfl) rfl
       go_wp2_with fail
       go_ret
       exact dK.bad (.refl s) ab.out δ δ h6 ⟨a.out,a.kinds,a.stops,a.a8,rfl⟩
   · have ab:=η (S.out.trans (if_neg ω));have r:¬(286:Int)<A1:=ω;have U:¬(30:Int)<Q:=ω;clear eK S;have jT:∀W,(Instr.makeSlice 51 (.int .i64 19) (.int .i64 19)).run Tryz.prog W= .ok (.slice (some ⟨W.heap.size,0,none⟩) 19 19) (W.alloc (.cells (cn 19 (.int .i64 0)) 3)):=λW=>cF (P:=Tryz.prog) 51 3 i0 (.int .i64 0) Tryz.underlying51 Hi.out dM.out cV.out rfl .i64 .i64 19 (by rw[dN.out];omega) ω W
     have Vc:=η jT;clear jT;go_enter Tryz.func42,Tryz.ntmps42
     go_wp2_with fail
     go_region
     all_goals
      go_wp2_with fail
      refine pO.out.mono ?_;rintro e w3 ⟨rfl,h3⟩
      go_wp2_with fail
      refine(Q4.out _ h3).mono ?_;rintro e w4 ⟨rfl,h4⟩
      go_wp2_with fail
      refine(Vl.out _ h4).mono ?_;rintro e w5 ⟨rfl,h5⟩
      go_upto_region 13 with fail
      refine wp_region_list ?_;refine wpList_buildFlatAt rfl 51 3 19 _ rfl .i64 [16,17,18,0,8,7,9,6,10,5,11,4,12,3,13,2,14,1,15] _ rfl _ rfl Tryz.underlying51 (by kernel_rfl) (by kernel_rfl) rfl δ δ rfl ?_;have jT:=Vc.out
      go_wp2_with fail
      change Code.wp _ _ _ _ (Kw w5)
      have Ut:=Gs w5 [];obtain⟨go,ah⟩ :=ν (w5.heap.size)
      have gy:Hid (HdR w b0 g c R s A1 Q C1 (go+1) go C1 (.bool false) (.int .i64 0) (Kw w5)):=by
       obtain⟨c5,JN,zu⟩ :=h5
       have Ud:∀q,w5.heap.size<=q->c5 q=0:=λq hq=>by
        by_cases e:c5 q=0
        · exact e
        · have:=(JN.cb q e).2;omega
       have qd:=hO.step (.inl (by rw[ab.out]));have ci:=IS.Steps.one (s:=s) (by rw[ab.out]);rw[ab.out]at qd ci;exact⟨0,{ R with at_:=R.at_+5+5+4 },_,c5,Nat.zero_le _,rfl,rfl,rfl,JN.keeps Ut.1,zu.step JN.lo (λk z=>(JN.cb k z).1) (aq.aB Ut.1) (λ_ _=>rfl),Ud _ ω,Ud _ ω,ci, ⟨cl.out,cZ.out,a.out,a.kinds,a.stops,a.a8,a.most,a.E,a.bit,a.len,a.even,a.small,Nat.le_trans a.tk (by show R.at_<=R.at_+5+5+4;omega)⟩,qd,rfl,rfl, ⟨rfl,rfl,rfl⟩,by rw[<-ah];exact Ut.2.2,by rw[<-ah];exact Ut.2.1, ⟨rfl,rfl,rfl,by show R.at_<=R.at_+5+5+4;omega⟩⟩
      have cz:Hid (w.heap.size<=go):=by show _<=_;rw[<-ah];exact h5.aside.1.size
      rw[ah];clear Ut jT h5 h4 h3 ah a hO k1 z1 k5 k6 hS;generalize Kw w5=wo at gy⊢;have kJ:=h.cell.lt;have Bv:=h.lo
      go_loopg [11,12] C1 (HdR w b0 g c R s A1 Q C1 (go+1) go)
      case atStart=>exact gy.out
      case round=>
       clear gy;obtain⟨j,R1,t,c',hj,z,rfl,rfl,O,hD,ap,Wy,G,a,hO,f,YU,aA,cQ,aE,H⟩ :=hrel;have uL:=a.len;have uJ:=a.le;have lH:t.x.length=R1.X.length-R1.at_:=by rw[<-a.x,List.length_drop]
       have dq:=YU;have Zk:=aA;have LU:=η f;have V6:=η ap;have V7:=η Wy;by_cases cx:(j:Int)<(C1:Int)
       · have gH:t.lens.length<t.c2:=by have:=YU.out;have:=aA.out.2.2;omega
         by_cases F:t.x.length<3
         · have hs3:=η (GM (uD f gH F));have ht:=η (jm O.refl 3 ω ω uJ ω);clear F lH gH f ap Wy uL uJ
           go_wp2_with fail
           refine ht.out.mono ?_;rintro e I ⟨rfl,h6⟩
           go_wp2_with fail
           go_ret
           exact dK.bad G hs3.out δ δ (az.bR O hD h6) ⟨a.out,a.kinds,a.stops,a.a8,rfl⟩
         · have hs3:=η (uE f gH F);have Oo:=cO (hO.bit) 3;obtain⟨V,hV⟩ :=ν (((num t.x 3:Nat):Int):Int);have ht:=η (fg O.refl 3 ω ω a.bit ω V (by rw[a.x,hV]));rw[hV]at hs3;have zB:0<=V/\V<8:=by have:(2:Nat) ^ 3=8:=δ;omega
           have Kh:Hid (R1.X.drop (R1.at_+3)=t.x.drop 3):=by show _=_;rw[<-a.x,List.drop_drop]
           have mz:Hid (R1.at_+3<=R1.X.length):=by show _<=_;omega
           have Ui:(0:Int)<=j/\(j:Int)<19:=ω;have hp:=Ie j ω;have uQ:=η (Ry (l:=t.lens) (j:=j) ω YU.out V);obtain⟨p,tq⟩ :=ν (gG.getD j 0);rw[tq]at hp uQ;have YY:(0:Int)<=p/\(p:Int)<19:=ω;have Hh:=η (Gk t.lens V);have cH:=η tq;clear F lH gH f ap Wy uL uJ Oo hV tq
           go_wp2_with fail
           refine ht.out.mono ?_;rintro e I ⟨rfl,c6,zy,Fy⟩;have mr:=Fy.2.1.ar cQ (λe=>e V6.out);have ce:=Fy.2.1.ar aE (λe=>e V7.out);have q1:=ce.cell (i:=j) ω;rw[cH.out]at q1;have q2:=mr.cell (i:=p) hp;have q3:=mr.frozen' (i:=p) hp;have dH:go+1<I.heap.size:=mr.lt
           have G3:Hid (∀nb,nb= !cU (t.lens++[V])->HdR w b0 g c R s A1 Q C1 (go+1) go (gk-1) (.bool nb) (.int .i64 ((j:Int)+1)) (I.setCell ⟨go+1,p,none⟩ (.int .i64 V))):=λnb mC=>by
            have L:=hO.step (.inl (by rw[hs3.out]));have J:=IS.Steps.tail G (by rw[hs3.out]);rw[hs3.out]at L J;have cd:c6 (go+1)=0:=by rw[Fy.2.2 _ cQ.lt];exact V6.out
            have cD:c6 go=0:=by rw[Fy.2.2 _ aE.lt];exact V7.out
            have cc:aq I (I.setCell ⟨go+1,p,none⟩ (.int .i64 V)) (λk=>k=go+1):=(aq.refl I (λk=>k=go+1)).setCell (p:= ⟨go+1,p,none⟩) (.inl rfl) _;have dh:DE b0 w c I c6:=hD.step O.lo (λk z=>(O.cb k z).1) Fy.2.1 Fy.2.2;refine⟨j+1,_,_,c6,ω,by show gk-1=_;have:=z.out;omega,by go_num,by rw[mC],zy.aside cc (λk z=>by rw[z];exact cd),dh.own (cc.more λk z=>by rw[z];exact Nat.le_trans cz.out (Nat.le_succ _)) Bv,cd,cD,J, ⟨Kh.out,mz.out,a.out,a.kinds,a.stops,a.a8,a.most,a.E,a.bit,a.len,a.even,a.small,Nat.le_trans a.tk (by show R1.at_<=R1.at_+3;omega)⟩,L,LU.out,by show(t.lens++[V]).length=_;rw[List.length_append,dq.out];rfl,Zk.out,(mr.aQ hp _).congr λq hq=>uQ.out q hq,ce.far (p:= ⟨go+1,p,none⟩) (by show go≠go+1;omega) _, ⟨H.X,H.kinds,H.stops,Nat.le_trans H.le (by show R1.at_<=R1.at_+3;omega)⟩⟩
           clear zy Fy cQ aE;cases mC:cU t.lens
           · rw[mC]at Hh;have BJ:Hid (true= !cU (t.lens++[V])):=by show _=_;rw[Hh.out];rfl
             clear Hh mC
             go_wp2_with fail
             go_roundg (gk-1)
             case measure=>have:=z.out;omega
             case rel=>exact G3.out _ BJ.out
           · rw[mC]at Hh;by_cases sY:V=0
             · have BJ:Hid (false= !cU (t.lens++[V])):=by show _=_;rw[Hh.out,sY];rfl
               have db:¬(0:Int)<V:=ω;clear Hh mC;subst sY
               go_wp2_with fail
               go_roundg (gk-1)
               case measure=>have:=z.out;omega
               case rel=>exact G3.out _ BJ.out
             · have BJ:Hid (true= !cU (t.lens++[V])):=by
                show _=_
                have:(V==0)=false:=by simpa using sY
                rw[Hh.out,this];rfl
               have db:(0:Int)<V:=ω;clear Hh mC sY
               go_wp2_with fail
               go_roundg (gk-1)
               case measure=>have:=z.out;omega
               case rel=>exact G3.out _ BJ.out
       · obtain rfl:j=C1:=ω;clear dl dk dj hj z cx;obtain⟨D,ao⟩ :=ν (t.lens);rw[<-YU.out,ao]at cQ;have an:aT .i64 wr wr.heap.size (some ⟨go+1,0,none⟩) 19 (dD D):= ⟨(iN D).symm,(cQ.rd (B:=wr.heap.size) cQ.lt (Nat.le_refl 19)).congr λq hq=>N7 hq⟩;have JU:=η (xI (t:=t) f (by have:=YU.out;have:=aA.out.2.2;omega));have G0:=η (CE (t:=t) f (by have:=YU.out;have:=aA.out.2.2;omega));rw[ao]at JU G0⊢;have Yq:=η ao;have cA:=cQ.lt;have bt:=λW (hW:aT .i64 W wr.heap.size (some ⟨go+1,0,none⟩) 19 (dD D))=>pA (some ⟨go+1,0,none⟩) 19 19 _ (dD D) 7 W hW ω
         have Yt:=η (bt wr an);have wA:=O.cell.cell (i:=1) ω;have da:=O.cell.frozen' (i:=1) ω;have Nq:Hid (az w c (wr.setCell ⟨g,1,none⟩ (.int .i64 3)) b0 g { R1 with E:=3 }):=az.bR O hD (O.refl.put (i:=1) ω (.int .i64 3) { R1 with E:=3 } (cu rfl rfl rfl rfl rfl rfl rfl rfl rfl rfl rfl rfl rfl) rfl);clear ao f bt cQ aE ap Wy uL uJ lH;by_cases oy:ai (dD D) 7=0
         · cases tI:cU D
           · have hs3:=η (G0.out (by rw[oy,tI];simp));have PX:=η oy;rw[oy]at Yt;clear oy tI JU G0 Nq
             go_wp2_with fail
             refine Yt.out.mono ?_;rintro e I ⟨rfl,rfl⟩
             go_wp2_with fail
             refine(pB _ _ _ _ _ _ an (Nat.le_refl _) ω).mono ?_;rintro e w7 ⟨gc,rfl,kV,ly,Qo⟩
             have Ud:c' gc=0:=by
              by_cases e:c' gc=0
              · exact e
              · have:=(O.cb _ e).2;omega
             have cB:gc<w7.heap.size:=by
              obtain⟨ad,e,hb, -⟩ :=kV.at_ (i:=0) ω;injection e with e;subst e;exact hb
             have bB:QP w b0 g c (go+1) gc (dD D) R1 none 0 0 [] w7 c':= ⟨ag.br,O.keeps ly,hD.step O.lo (λk z=>(O.cb k z).1) (aq.aB ly) (λ_ _=>rfl),V6.out,Ud,λq hq=>by simp [aa]at hq,(an.below ly).more ly.size,kV,Nat.lt_of_lt_of_le cA ly.size,cB⟩
             have zM:Hid (∃k,LnR w b0 g c R s A1 Q (go+1) gc (dD D) k (.slice none 0 0) w7):=by
              have L:=hO.step (.inl (by rw[hs3.out]));have J:=IS.Steps.tail G (by rw[hs3.out]);rw[hs3.out]at L J;exact⟨_,R1,_,c',none,0,0,rfl,bB,J, ⟨a.x,a.le,a.out,a.kinds,a.stops,a.a8,a.most,a.E,a.bit,a.len,a.even,a.small,a.tk⟩,L,rfl,rfl, ⟨Zk.out.1,Zk.out.2.1,rfl⟩,H⟩
             obtain⟨k0,zM⟩ :=zM.out;have Va:=η zM;clear zM bB kV O hD a hO an wA da G H hs3
             go_wp2_with fail
             go_loopg [16] k0 (LnR w b0 g c R s A1 Q (go+1) gc (dD D))
             case atStart=>exact Va.out
             case round=>
              clear Va;obtain⟨d,b,c2,Al,n,cp,rfl,y,G,a,hO,f,z,FO,H⟩ :=hrel;have bT:n=b.lens.length:=y.own.1;obtain⟨q1,q2,q3,q4⟩ :=hO.h5 f;have CB:=FO.out;have rE:(0:Int)<=n/\(n:Int)<=320:=ω;have kT:=η bT;have ZC:=η f;have en:=η q1;have oV:ai (dD D) 7=0:=PX.out
              have iq:∀i,i<19->0<=ix (dD D) i/\ix (dD D) i<=15:=λi hi=>by
               have:0<=ix (dD D) i/\ix (dD D) i<=7:=by
                apply Classical.byContradiction
                intro cq;rw[oO (by rw[iN];exact hi) cq]at oV;exact absurd oV δ
               omega
              have Uj:=a.len;have FX:=a.le;have Kj:b.x.length=d.X.length-d.at_:=by rw[<-a.x,List.length_drop]
              by_cases dx:(n:Int)<(A1:Int)+(Q:Int)
              · have rG:Hid (b.step=b.length):=CZ f ω;unfold IS.length at rG;obtain⟨K,hK⟩ :=ν ((ae b.hd b.x).1);obtain⟨N,xG⟩ :=ν ((ae b.hd b.x).2.1);obtain⟨E,hE⟩ :=ν ((ae b.hd b.x).2.2);have eZ:Hid (E=0\/E=3\/E=5):=by have:=bK b.hd b.x;rw[hE]at this;exact this
                have jL:Hid (E=0->0<=K/\K<19/\N<=b.x.length):=λh=>by
                 obtain⟨k2,n2,e1,e2,e3,e4,e5⟩ :=ie (l:=b.hd) (x:=b.x) hO.bit (by rw[hE,h];simp);rw[e1]at hK xG;simp at hK xG;omega
                have bv:ae b.hd b.x=(K,N,E):=by rw[<-hK,<-xG,<-hE]
                rw[hK,xG,hE]at rG;have Ke:=vC y.ref.refl (some ⟨go+1,0,none⟩) (some ⟨gc,0,none⟩) 19 19 19 (dD D) y.rH y.rC ω iq ω a.bit FX K N E (by rw[a.x,<-CB.2.2];exact bv);have Ja:=η Ke;clear hK xG hE bv Ke iq oV bT f q1 q2 q3 q4 CB FX Uj;by_cases lr:E=0
                · subst lr;obtain⟨Ia,RA,eb⟩ :=jL.out rfl;have eE:=η (rG.out.trans (if_neg δ));have F:Hid (d.X.drop (d.at_+N)=b.x.drop N):=by show _=_;rw[<-a.x,List.drop_drop]
                  have mz:Hid (d.at_+N<=d.X.length):=by show _<=_;have:=a.le;omega
                  have nj:Calls Tryz.prog 57 #[.pointer (some ⟨g,0,none⟩), .slice (some ⟨go+1,0,none⟩) 19 19, .slice (some ⟨gc,0,none⟩) 19 19] wr λe w'=>e= .returned (.tuple #[.int .i64 K, .bool true])/\az wr c2 w' b0 g { d with at_:=d.at_+N }:=by
                   refine Ja.out.mono ?_;rintro e w' (⟨-,r,U⟩ | ⟨r, -⟩)
                   · exact⟨r,U⟩
                   · exact absurd rfl r
                  have EF:=η nj;have o:jq { d with at_:=d.at_+N } { b with x:=b.x.drop N }:= ⟨F.out,mz.out,a.out,a.kinds,a.stops,a.a8,a.most,a.E,a.bit,a.len,a.even,a.small,Nat.le_trans a.tk (by show d.at_<=d.at_+N;omega)⟩;have ct:yK R { d with at_:=d.at_+N }:= ⟨H.X,H.kinds,H.stops,Nat.le_trans H.le (by show d.at_<=d.at_+N;omega)⟩;clear rG jL eZ Ja nj Kj
                  go_wp2_with fail
                  refine EF.out.mono ?_;rintro e I ⟨rfl,h6⟩;obtain⟨c6,M⟩ :=y.turn h6;clear h6;by_cases zw:K<16
                  · have v:=η (eE.out.trans (if_pos zw));have eD:=M.own.alloc (.cells #[.int .i64 K] 3);have jf:=M.de.2.1.size;have be:Hid (b.step.1.mu<b.mu):=IS.ek (by rw[v.out]);clear eE
                    go_wp2_with (at_builtin;(refine au .i64 w.heap.size 3 i0 8 rfl (.tmp 124) (.tmp 126) _ rfl Tryz.underlying51 Hi.out dM.out cV.out dN.out rfl eD rfl (aT.lit .i64 I [K] 3) ω ω ξ ?_)
                                 intro A4 d4 w4 aC bk bG)
                    have Qi:=M.push Bv K bk aC bG;go_roundg b.step.1.mu
                    case measure=>have:=z.out;have:=be.out;omega
                    case rel=>
                     have L:=hO.step (.inl (by rw[v.out]));have J:=IS.Steps.tail G (by rw[v.out]);rw[v.out]at L J⊢;exact⟨_,_,c6,A4,n+1,d4,rfl,Qi,J, ⟨o.x,o.le,o.out,o.kinds,o.stops,o.a8,o.most,o.E,o.bit,o.len,o.even,o.small,o.tk⟩,L,ZC.out,rfl,FO.out,ct⟩
                  · have fc:=η (eE.out.trans (if_neg zw));have bi:K=16\/K=17\/K=18:=ω;clear eE;obtain⟨Bd,Et⟩ :=ν (decide (K=16/\b.lens.length=0));have jN:=η Et;clear Et
                    go_upto_region 35 with fail
                    go_cut [134] (λs wx=>s= .bool Bd/\wx=I)
                    case first=>
                     by_cases Y:K=16
                     · by_cases jU:n=0
                       · have hd:Hid (true=Bd):=by show _=_;rw[<-jN.out];exact(decide_eq_true ⟨Y,by rw[<-kT.out];exact jU⟩).symm
                         clear jN;subst Y jU
                         go_wp2_with fail
                         go_meet
                         exact⟨congrArg Value.bool hd.out,rfl⟩
                       · have hd:Hid (false=Bd):=by show _=_;rw[<-jN.out];exact(decide_eq_false λh=>jU (by rw[kT.out];exact h.2)).symm
                         have CJ:((n:Int)==0)=false:=ξ;clear jU jN;subst Y
                         go_wp2_with fail
                         go_meet
                         exact⟨congrArg Value.bool hd.out,rfl⟩
                     · have hd:Hid (false=Bd):=by show _=_;rw[<-jN.out];exact(decide_eq_false λh=>Y h.1).symm
                       have cw:(K==16)=false:=by simpa using Y
                       clear Y jN
                       go_wp2_with fail
                       go_meet
                       exact⟨congrArg Value.bool hd.out,rfl⟩
                    case rest=>
                     rename World=>wc
                     obtain⟨rfl,rfl⟩ :=hcut;by_cases rv:K=16/\b.lens.length=0
                     · have v:=η (fc.out.trans (if_pos rv));rw[<-jN.out,decide_eq_true rv];have x1:=M.ref.cell.cell (i:=1) ω;have y1:=M.ref.cell.frozen' (i:=1) ω;have h7:=az.bR M.ref M.de (M.ref.refl.put (i:=1) ω (.int .i64 2) { d with at_:=d.at_+N,E:=2 } (cu rfl rfl rfl rfl rfl rfl rfl rfl rfl rfl rfl rfl rfl) rfl);clear rv fc bi zw
                       go_wp2_with fail
                       go_ret
                       exact dK.bad G v.out δ δ h7 ⟨a.out,a.kinds,a.stops,a.a8,rfl⟩
                     · have fX:=η (fc.out.trans (if_neg rv));rw[<-jN.out,decide_eq_false rv];have qo:K=16->0<n:=λh=>by have:=kT.out;omega
                       clear fc rv jN;obtain⟨W,hW⟩ :=ν (IS.rW K);obtain⟨Bs,Qe⟩ :=ν (IS.rB K);have ch:W<=7/\Bs<=11:=by rw[<-hW,<-Qe];rcases bi with rfl | rfl | rfl <;> decide
                       have Z:=η (And.intro hW Qe);rw[hW]at fX;clear hW Qe;obtain⟨W1,aI⟩ :=ν ((if K=17 then 3 else 2):Nat)
                       have Q5:Hid ((K=17->W1=3/\W=3/\Bs=3)/\(K=18->W=7/\Bs=11)/\(K=16->W1=2/\W=2/\Bs=3)):=by
                        refine⟨λh=> ?_,λh=> ?_,λh=> ?_⟩
                        · subst h;rw[<-aI,<-Z.out.1,<-Z.out.2];exact⟨rfl,rfl,rfl⟩
                        · subst h;rw[<-Z.out.1,<-Z.out.2];exact⟨rfl,rfl⟩
                        · subst h;rw[<-aI,<-Z.out.1,<-Z.out.2];exact⟨rfl,rfl,rfl⟩
                       have Jb:Hid (K≠17->W1=2):=λh=>by rw[<-aI,if_neg h]
                       clear aI
                       go_upto_if 139 with fail
                       go_cut [19] (λbd wx=>bd= .int .i64 W1/\wx=wc)
                       case first=>
                        by_cases am:K=17
                        · have hf:Hid (Value.int .i64 3=Value.int .i64 (W1:Int)):=by show _=_;rw[(Q5.out.1 am).1];rfl
                          clear Q5 Jb Z;subst am
                          go_wp2_with fail
                          go_meet
                          exact⟨hf.out,rfl⟩
                        · have hf:Hid (Value.int .i64 2=Value.int .i64 (W1:Int)):=by show _=_;rw[Jb.out am];rfl
                          have ef:(K==17)=false:=by simpa using am
                          clear Q5 Jb Z am
                          go_wp2_with fail
                          go_meet
                          exact⟨hf.out,rfl⟩
                       case rest=>
                        obtain⟨rfl,rfl⟩ :=hcut
                        go_upto_if 141 with fail
                        go_cut [19,20] (λbd ck wx=>bd= .int .i64 W/\ck= .int .i64 Bs/\wx=wc)
                        case first=>
                         by_cases YC:K=18
                         · have hf:Hid (Value.int .i64 7=Value.int .i64 (W:Int)/\Value.int .i64 11=Value.int .i64 (Bs:Int)):=by show _/\_;rw[(Q5.out.2.1 YC).1,(Q5.out.2.1 YC).2];exact⟨rfl,rfl⟩
                           clear Q5 Jb Z;subst YC
                           go_wp2_with fail
                           go_meet
                           exact⟨hf.out.1,hf.out.2,rfl⟩
                         · have hf:Hid (Value.int .i64 (W1:Int)=Value.int .i64 (W:Int)/\Value.int .i64 3=Value.int .i64 (Bs:Int)):=by
                            show _/\_
                            rcases bi with h | h | h
                            · obtain⟨a1,a2,a3⟩ :=Q5.out.2.2 h;rw[a1,a2,a3];exact⟨rfl,rfl⟩
                            · obtain⟨a1,a2,a3⟩ :=Q5.out.1 h;rw[a1,a2,a3];exact⟨rfl,rfl⟩
                            · exact absurd h YC
                           have ee:(K==18)=false:=by simpa using YC
                           clear Q5 Jb Z YC
                           go_wp2_with fail
                           go_meet
                           exact⟨hf.out.1,hf.out.2,rfl⟩
                        case rest=>
                         obtain⟨rfl,rfl,rfl⟩ :=hcut;have SB:(b.x.drop N).length=d.X.length-(d.at_+N):=by rw[<-F.out,List.length_drop]
                         have Uk:=a.len;by_cases ac:(b.x.drop N).length<W
                         · have v:=η (fX.out.trans (if_pos ac));have ht:=η (jm M.ref.refl W ω (by show d.X.length<=_;omega) mz.out (by show d.X.length<d.at_+N+W;omega));clear ac SB fX Uk qo
                           go_wp2_with fail
                           refine ht.out.mono ?_;rintro e w7 ⟨rfl,h7⟩
                           go_wp2_with fail
                           go_ret
                           exact dK.bad G v.out δ δ (az.bR M.ref M.de h7) ⟨a.out,a.kinds,a.stops,a.a8,rfl⟩
                         · have fe:=η (fX.out.trans (if_neg ac));unfold IS.fB at fe;have Oo:=cO (hO.bit.bu N) W;have co:2 ^ W<=2 ^ 7:=Nat.pow_le_pow_right ω ch.1;obtain⟨V,hV⟩ :=ν (num (b.x.drop N) W);have ht:=η (fg M.ref.refl W ω (by show d.X.length<=_;omega) a.bit (by show d.at_+N+W<=d.X.length;have:=mz.out;omega) (V:Int) (by show _=((num (d.X.drop (d.at_+N)) W:Nat):Int);rw[F.out,hV]));rw[hV]at Oo;obtain⟨T,hT⟩ :=ν (Bs+V);obtain⟨KK,W5⟩ :=ν ((if K=16 then ix b.lens (b.lens.length-1)else 0):Int);rw[Z.out.1,Z.out.2,hV,hT,W5]at fe;have dc:(Bs:Int)+(V:Int)=(T:Int):=ω;have Wf:(0:Int)<=T/\(T:Int)<=200/\(0:Int)<=V/\(V:Int)<=128/\(0:Int)<=Bs/\(Bs:Int)<=11:=ω;have Ez:Hid (d.X.drop (d.at_+N+W)=(b.x.drop N).drop W):=by show _=_;rw[<-F.out,List.drop_drop]
                           have bG:Hid (d.at_+N+W<=d.X.length):=by show _<=_;have:=mz.out;omega
                           have wh:=η W5;clear ac SB fX Uk Oo co hV hT W5 ch Z Q5 Jb
                           go_wp2_with fail
                           refine ht.out.mono ?_;rintro e w7 ⟨rfl,h7⟩;obtain⟨c7,Qi⟩ :=M.turn h7;clear h7 M
                           go_upto_if 154 with fail
                           go_cut [23] (λcj wx=>cj= .int .i64 KK/\wx=w7)
                           case first=>
                            by_cases Y:K=16
                            · obtain⟨m,hm⟩ :∃m,n=m+1:= ⟨n-1,by have:=qo Y;omega⟩;subst hm;obtain⟨ad,rfl,cL,c1⟩ :=Qi.own.rd.at_ (i:=m) ω;have bS:Hid (ix b.lens m=KK):=by show _=_;rw[<-wh.out,if_pos Y,<-kT.out];rfl
                              rw[bS.out]at c1;have K4:(0:Int)<=m/\(m:Int)<=400:=ω;clear wh qo bS;subst Y
                              go_wp2_with fail
                              go_meet
                              exact⟨rfl,rfl⟩
                            · have cw:(K==16)=false:=by simpa using Y
                              have hz:Hid (Value.int .i64 0=Value.int .i64 KK):=by show _=_;rw[<-wh.out,if_neg Y]
                              clear wh qo Y
                              go_wp2_with fail
                              go_meet
                              exact⟨hz.out,rfl⟩
                           case rest=>
                            obtain⟨rfl,rfl⟩ :=hcut;clear qo wh dc;by_cases eK:(A1:Int)+(Q:Int)<(n:Int)+(T:Int)
                            · have v:=η (fe.out.trans (if_pos (by have r:=FO.out.1;have U:=FO.out.2.1;have h3:=kT.out;omega)));have x1:=Qi.ref.cell.cell (i:=1) ω;have y1:=Qi.ref.cell.frozen' (i:=1) ω;have h8:=az.bR Qi.ref Qi.de (Qi.ref.refl.put (i:=1) ω (.int .i64 2) { d with at_:=d.at_+N+W,E:=2 } (cu rfl rfl rfl rfl rfl rfl rfl rfl rfl rfl rfl rfl rfl) rfl);clear fe
                              go_wp2_with fail
                              go_ret
                              exact dK.bad G v.out δ δ h8 ⟨a.out,a.kinds,a.stops,a.a8,rfl⟩
                            · have v:=η (fe.out.trans (if_neg (by have r:=FO.out.1;have U:=FO.out.2.1;have h3:=kT.out;omega)));clear fe;have Uh:Hid (RpR w b0 g c (go+1) gc (dD D) { d with at_:=d.at_+N+W } b.lens KK T c7 T (.slice Al n cp) (.int .i64 0) wc):= ⟨0,Al,n,cp,Nat.zero_le _,rfl,rfl,rfl,by rw[List.replicate_zero,List.append_nil];exact Qi⟩;clear Qi
                              go_wp2_with fail
                              go_loopg [16,24] T (RpR w b0 g c (go+1) gc (dD D) { d with at_:=d.at_+N+W } b.lens KK T c7)
                              case atStart=>exact Uh.out
                              case round=>
                               clear Uh;obtain⟨jj,A3,n3,dp,S6,bI,rfl,rfl,al⟩ :=hrel;by_cases dG:(jj:Int)<(T:Int)
                               · have zP:n3=(b.lens++List.replicate jj KK).length:=al.own.1;rw[List.length_append,List.length_replicate,<-kT.out]at zP;have cs:n3+1<=1000000000000:=ω;have eD:=al.own.alloc (.cells #[.int .i64 KK] 3);have kx:=al.de.2.1.size;clear zP
                                 go_wp2_with (at_builtin;(refine au .i64 w.heap.size 3 i0 8 rfl (.tmp 177) (.tmp 179) _ rfl Tryz.underlying51 Hi.out dM.out cV.out dN.out rfl eD rfl (aT.lit .i64 wr [KK] 3) cs ω ξ ?_)
                                              intro A4 d4 w4 aC bk eJ)
                                 have dd:=al.push Bv KK bk aC eJ;go_roundg (gk-1)
                                 case measure=>have:=bI.out;omega
                                 case rel=>exact⟨jj+1,A4,n3+1,d4,ω,by show gk-1=_;have:=bI.out;omega,by go_num,rfl,by rw[List.replicate_succ',<-List.append_assoc];exact dd⟩
                               · obtain rfl:jj=T:=ω;have be:Hid (b.step.1.mu<b.mu):=IS.ek (by rw[v.out])
                                 go_wp2_with fail
                                 go_roundg b.step.1.mu
                                 case measure=>have:=z.out;have:=be.out;omega
                                 case rel=>
                                  have L:=hO.step (.inl (by rw[v.out]));have J:=IS.Steps.tail G (by rw[v.out]);rw[v.out]at L J⊢;exact⟨{ d with at_:=d.at_+N+W },_,c7,A3,n3,dp,rfl,al,J, ⟨Ez.out,bG.out,a.out,a.kinds,a.stops,a.a8,a.most,a.E,a.bit,a.len,a.even,a.small,Nat.le_trans a.tk (by show d.at_<=d.at_+N+W;omega)⟩,L,ZC.out,rfl,FO.out, ⟨H.X,H.kinds,H.stops,Nat.le_trans H.le (by show d.at_<=d.at_+N+W;omega)⟩⟩
                · have hs3:=η (rG.out.trans (if_pos lr))
                  have nj:Calls Tryz.prog 57 #[.pointer (some ⟨g,0,none⟩), .slice (some ⟨go+1,0,none⟩) 19 19, .slice (some ⟨gc,0,none⟩) 19 19] wr λe w'=>e= .returned (.tuple #[.int .i64 0, .bool false])/\az wr c2 w' b0 g { d with E:=E }:=by
                   refine Ja.out.mono ?_;rintro e w' (⟨r, -⟩ | ⟨-,r,U⟩)
                   · exact absurd r lr
                   · exact⟨r,U⟩
                  have EF:=η nj;have h8:E≠8:=by rcases eZ.out with e | e | e <;> omega
                  have Bn:=η lr;have Zm:=η h8;clear rG jL eZ Ja nj lr h8 Kj
                  go_wp2_with fail
                  refine EF.out.mono ?_;rintro e I ⟨rfl,h6⟩
                  go_wp2_with fail
                  go_ret
                  exact dK.bad G hs3.out Bn.out Zm.out (az.bR y.ref y.de h6) ⟨a.out,a.kinds,a.stops,a.a8,rfl⟩
              · have cr:n=A1+Q:=ω;have bb:=η (D9 f ω);have df:=y.own.2.fD;have Oa:=dr (P:=Tryz.prog) 51 3 Tryz.underlying51 Hi.out cV.out Al n cp (j:=A1) ω;have CQ:=bE (P:=Tryz.prog) 51 3 Tryz.underlying51 Hi.out cV.out Al n cp (j:=A1) ω;have y8:=y.ref.cell.frozen' (i:=8) ω;have x8:=y.ref.cell.cell (i:=8) ω;have xF:=y.ref.put (i:=8) ω (.slice Al A1 cp) { d with Al:= .slice Al A1 cp } (cu rfl rfl rfl rfl rfl rfl rfl rfl rfl rfl rfl rfl rfl) rfl;have y9:=xF.cell.frozen' (i:=9) ω;have x9:=xF.cell.cell (i:=9) ω;have Na:=xF.put (i:=9) ω (.slice (bY Al cp A1) (n-A1) (cp-A1)) { d with Al:= .slice Al A1 cp,Ad:= .slice (bY Al cp A1) (n-A1) (cp-A1) } (cu rfl rfl rfl rfl rfl rfl rfl rfl rfl rfl rfl rfl rfl) rfl;have K7:aa Al≠some g:=λe=>by have:=(y.row g e).1;rw[y.ref.cg]at this;exact absurd this δ
                obtain⟨w9,XE⟩ :=ν ((wr.setCell ⟨g,8,none⟩ (.slice Al A1 cp)).setCell ⟨g,9,none⟩ (.slice (bY Al cp A1) (n-A1) (cp-A1)));have NW:ag .i64 w9 w.heap.size 3 Al n cp b.lens:=by rw[<-XE];exact(y.own.far (p:= ⟨g,8,none⟩) K7 _).far (p:= ⟨g,9,none⟩) K7 _
                have ca:aq wr w9 (λk=>c2 k≠0):=by
                 rw[<-XE];exact((aq.refl wr (λk=>c2 k≠0)).setCell (p:= ⟨g,8,none⟩) (.inl (by rw[y.ref.cg];decide)) _).setCell (p:= ⟨g,9,none⟩) (.inl (by rw[y.ref.cg];decide)) _
                have uy:DE b0 w c w9 c2:=y.de.step y.ref.lo (λk z=>(y.ref.cb k z).1) ca (λ_ _=>rfl);rw[XE]at Na;have aS:=η XE;obtain⟨E1,VY⟩ :=ν (ai (b.lens.take b.c0) 15);obtain⟨E2,VZ⟩ :=ν (ai (b.lens.drop b.c0) 15);have oZ:aT .i64 w9 w9.heap.size Al A1 (b.lens.take b.c0):=by rw[CB.1];exact NW.rd.pre ω
                have rF:aT .i64 w9 w9.heap.size (bY Al cp A1) (n-A1) (b.lens.drop b.c0):=by rw[CB.1];exact NW.rd.bY ω df
                have Rv:=pA Al A1 cp _ (b.lens.take b.c0) 15 w9 oZ ω;have YG:=pA (bY Al cp A1) (n-A1) (cp-A1) _ (b.lens.drop b.c0) 15 w9 rF ω;rw[VY]at Rv;rw[VZ]at YG;have BI:=η Rv;have rY:=η YG;obtain⟨ad,TQ,cL,F0⟩ :=oZ.at_ (i:=256) ω;obtain⟨x,hx⟩ :=ν (ix b.lens 256)
                have a05:w9.cell? ⟨ad.block,ad.off+256,none⟩ =some (.int .i64 x):=by
                 have e:ix (b.lens.take b.c0) 256=x:=by rw[<-hx];unfold ix;rw[List.getD_eq_getElem?_getD,List.getD_eq_getElem?_getD,List.getElem?_take,if_pos ω]
                 rw[<-e,<-BR ad (k:=256) ω];exact F0
                have k8:=Na.cell.cell (i:=8) ω;rw[show sF { d with Al:= .slice Al A1 cp,Ad:= .slice (bY Al cp A1) (n-A1) (cp-A1) } 8= .slice Al A1 cp from rfl,TQ]at k8;have k9:=Na.cell.cell (i:=9) ω;rw[show sF { d with Al:= .slice Al A1 cp,Ad:= .slice (bY Al cp A1) (n-A1) (cp-A1) } 9= .slice (bY Al cp A1) (n-A1) (cp-A1) from rfl]at k9;have k1:=Na.cell.cell (i:=1) ω;have y1:=Na.cell.frozen' (i:=1) ω;have er:=η TQ;have fc:=η bb.out;rw[VY,VZ,hx]at fc;have eW:Hid (az w c (w9.setCell ⟨g,1,none⟩ (.int .i64 3)) b0 g { d with Al:= .slice Al A1 cp,Ad:= .slice (bY Al cp A1) (n-A1) (cp-A1),E:=3 }):=az.bR Na uy (Na.refl.put (i:=1) ω (.int .i64 3) { d with Al:= .slice Al A1 cp,Ad:= .slice (bY Al cp A1) (n-A1) (cp-A1),E:=3 } (cu rfl rfl rfl rfl rfl rfl rfl rfl rfl rfl rfl rfl rfl) rfl)
                have cm:0<n-A1->∀ad,bY Al cp A1=some ad->c2 ad.block=0:=λ_ u6 e=>by
                 have r:u6.block=(Al.getD ⟨0,0,none⟩).block/\Al.isSome:=by
                  unfold bY at e;rw[TQ]at e⊢
                  split at e <;> (injection e with e;subst e)
                  all_goals first
                   | exact⟨rfl,rfl⟩
                   | exact⟨aw _ _,rfl⟩
                 rw[r.1];refine(y.row _ ?_).1;rw[TQ];rfl
                have mZ:Hid (¬(E1≠0\/E2≠0\/x=0)->dK w b0 g c R s (.returned (.bool true)) w9):=λhg=>by
                 have v:=fc.out.trans (if_neg hg);have L:=hO.step (.inl (by rw[v]));have J:=IS.Steps.tail G (by rw[v]);rw[v]at L J;have bs:=λq hq=>(y.row q hq).1
                 exact .inl ⟨_,_,c2,Al,A1,cp,bY Al cp A1,n-A1,cp-A1,rfl,Na,uy,J,rfl,L, ⟨a.x,a.le,a.out,a.kinds,a.stops,a.a8,a.most,a.E,a.bit,a.len,a.even,a.small,a.tk⟩,rfl,rfl,oZ,rF,λ_ u6 e=>bs _ (by rw[e];rfl),cm, ⟨H.X,H.kinds,H.stops,H.le⟩⟩
                have du:(256:Int)<(A1:Int):=ω;clear XE VY VZ hx TQ F0 f bb NW ca uy Na xF oZ rF Rv YG cr CB q1 q2 q3 q4 iq oV bT Kj FX Uj df;by_cases hg:E1≠0\/E2≠0\/x=0
                · have v:=η (fc.out.trans (if_pos hg));have bl:E1≠0\/(E1=0/\E2≠0)\/(E1=0/\E2=0/\x=0):=ω;clear hg mZ fc;rcases bl with r | ⟨r,U⟩ | ⟨r,U,h3⟩
                  · have Lr:(E1==0)=false:=by simpa using r
                    go_wp2_with fail
                    rw[aS.out];refine BI.out.mono ?_;rintro e GV ⟨rfl,rfl⟩
                    go_wp2_with fail
                    go_ret
                    exact dK.bad G v.out δ δ eW.out ⟨a.out,a.kinds,a.stops,a.a8,rfl⟩
                  · have ea:(E2==0)=false:=by simpa using U
                    subst r
                    go_wp2_with fail
                    rw[aS.out];refine BI.out.mono ?_;rintro e GV ⟨rfl,rfl⟩
                    go_wp2_with fail
                    refine rY.out.mono ?_;rintro e QB ⟨rfl,rfl⟩
                    go_wp2_with fail
                    go_ret
                    exact dK.bad G v.out δ δ eW.out ⟨a.out,a.kinds,a.stops,a.a8,rfl⟩
                  · subst r U h3
                    go_wp2_with fail
                    rw[aS.out];refine BI.out.mono ?_;rintro e GV ⟨rfl,rfl⟩
                    go_wp2_with fail
                    refine rY.out.mono ?_;rintro e QB ⟨rfl,rfl⟩
                    go_wp2_with fail
                    go_ret
                    exact dK.bad G v.out δ δ eW.out ⟨a.out,a.kinds,a.stops,a.a8,rfl⟩
                · have HG:=η (mZ.out hg);have r:E1=0:=Decidable.not_not.1 λh=>hg (.inl h)
                  have U:E2=0:=Decidable.not_not.1 λh=>hg (.inr (.inl h))
                  have h3:¬x=0:=λh=>hg (.inr (.inr h))
                  have dT:(x==0)=false:=by simpa using h3
                  clear hg mZ fc;subst r U
                  go_wp2_with fail
                  rw[aS.out];refine BI.out.mono ?_;rintro e GV ⟨rfl,rfl⟩
                  go_wp2_with fail
                  refine rY.out.mono ?_;rintro e QB ⟨rfl,rfl⟩
                  go_wp2_with fail
                  go_ret
                  exact HG.out
           · have hs3:=η (JU.out (.inr tI));rw[oy]at Yt;clear oy tI JU G0
             go_wp2_with fail
             refine Yt.out.mono ?_;rintro e I ⟨rfl,rfl⟩
             go_wp2_with fail
             go_ret
             exact dK.bad G hs3.out δ δ Nq.out ⟨a.out,a.kinds,a.stops,a.a8,rfl⟩
         · have hs3:=η (JU.out (.inl oy));obtain⟨E7,TU⟩ :=ν (ai (dD D) 7);rw[TU]at Yt oy;have wB:(E7==0)=false:=by simpa using oy
           generalize cU D=nbv;clear TU JU G0;cases nbv
           all_goals
            go_wp2_with fail
            refine Yt.out.mono ?_;rintro e I ⟨rfl,rfl⟩
            go_wp2_with fail
            go_ret
            exact dK.bad G hs3.out δ δ Nq.out ⟨a.out,a.kinds,a.stops,a.a8,rfl⟩
end
end Go.Proofs.YtddhegejmkgmjaaGreat
