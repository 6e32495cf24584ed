/-
  part
-/
import Derived.Test.YtgiimmkmjpbecaaGreatArr
import Derived.Test.YtgiimmkmjpbecaaGreatPk27
import Derived.BigRegion
namespace Go.Proofs.YtgiimmkmjpbecaaGreat
open Go.RowKit
set_option linter.unusedVariables false
set_option maxRecDepth 100000
set_option maxHeartbeats 8000000
section
variable {w w' w0 w2:World} {b0 g:Nat} {c0:Nat->Nat} {M M':DM} {S S':DS} {s t:IS} {b:ag} {v:Int}
theorem bA.push (h:bA w0 c0 w b0 g M S) (v:Int) {A2:ax} {d c2:Nat} (j:(w.alloc (.cells #[.int .i64 v] 3)).grownBy w2 (ai M.Al)) (m:aT .i64 w2 b0 3 A2 d c2 (M.lens++[v])) (b:ai A2=ai M.Al\/ai A2=some (w.alloc (.cells #[.int .i64 v] 3)).heap.size):
  bA w0 c0 (w2.setCell ⟨g,11,none⟩ (.slice A2 d c2)) b0 g { M with Al:=A2,nl:=d,cl:=c2,lens:=M.lens++[v] } S:=by
 have c:=h.apart.2.1;have o:=h.cell.lt;have n:=(h.cell.alloc (.cells #[.int .i64 v] 3)).grown j (λe=>c e.symm)
 have f:ai A2≠some g:=by
  rcases b with e | e
  · rw[e];exact c
  rw[e];intro i;injection i with i;simp at i;omega
 refine h.FY ((((bb.refl w _).alloc _).grown j (λq l=> .inl (.inr l))).setCell (p:= ⟨g,11,none⟩) (.inl (.inl rfl)) _) ((n.cE 11 _).congr (fc rfl rfl rfl rfl rfl rfl rfl rfl rfl rfl rfl rfl rfl rfl rfl rfl)) (m.far (p:= ⟨g,11,none⟩) f _) (λk a=> ?_);rcases b with e | e
 · exact .inl (e▸a)
 rw[e]at a;injection a with a;simp at a;exact .inr ω
def a43 (w0:World) (c0:Nat->Nat) (b0 g:Nat) (M:DM) (S:DS) (s:IS) (k:Nat) (wr:World):Prop:=
 ∃M' t,bA w0 c0 wr b0 g M' S/\IS.Steps s t/\Live M' S t/\t.Ok/\t.st=4/\M'.out=M.out/\t.all=s.all/\Hid (k=t.c2-t.lens.length)/\Hid (t.mu<=s.mu)
def a19 (b:World) (l:ag) (a:Nat) (A:ax) (nl:Nat) (k:Nat) (n i:Value) (wr:World):Prop:=
 ∃j,j<=l.length/\Hid (k=l.length-j)/\i= .int .i64 j/\n= .bool (gS (l.take j))/\Below a b wr/\Ar wr a 19 (hF l j)/\Ar wr (a+1) 19 (λp=> .int .i64 (l8.getD p 0:Nat))/\bT .i64 wr a A nl l
theorem bh.after {k:DM} {e:Ending} (j:IS.Steps s t) (p:t.mu<=s.mu) (a:t.all=s.all) (l:k.out=M.out) (h:bh w0 c0 b0 g k t e w'):bh w0 c0 b0 g M s e w':=by
 obtain⟨M',S',s',v,b,o,n,m,h4,h5,h6,h7⟩ :=h;refine⟨M',S',s',v,b,o,n,m,by rw[h4,l],by rw[h5,a],h6, ?_⟩;rcases h7 with ⟨f,d,i,c⟩ | ⟨f,d,i,c⟩ | ⟨f,d,i,c⟩
 · exact .inl ⟨f,j.trans d,ω,c⟩
 · exact .inr (.inl ⟨f,j.trans d,i,c⟩)
 exact .inr (.inr ⟨f,d,by rw[<-j.lM];exact i,c⟩)
def JC (w:World):World:=((w.alloc (.cells (eB 19 (.int .i64 0)) 3)).alloc (.cells #[.int .i64 16, .int .i64 17, .int .i64 18, .int .i64 0, .int .i64 8, .int .i64 7, .int .i64 9, .int .i64 6, .int .i64 10, .int .i64 5, .int .i64 11, .int .i64 4, .int .i64 12, .int .i64 3, .int .i64 13, .int .i64 2, .int .i64 14, .int .i64 1, .int .i64 15] 189)).drew
theorem Nd (w:World) (l:ag):Below w.heap.size w (JC w)/\Ar (JC w) w.heap.size 19 (hF l 0)/\Ar (JC w) (w.heap.size+1) 19 (λp=> .int .i64 (l8.getD p 0:Nat)):=by
 refine⟨(((aw _ w).alloc (af _) _).alloc σ _).drew,(((Ar.zeros w 19 (.int .i64 0) 3).alloc _).drew).congr λp _=>OL l p, ?_⟩
 have:=Ar.new (m:=19) (f:=λp=> .int .i64 (l8.getD p 0:Nat)) (w.alloc (.cells (eB 19 (.int .i64 0)) 3)) #[.int .i64 16, .int .i64 17, .int .i64 18, .int .i64 0, .int .i64 8, .int .i64 7, .int .i64 9, .int .i64 6, .int .i64 10, .int .i64 5, .int .i64 11, .int .i64 4, .int .i64 12, .int .i64 3, .int .i64 13, .int .i64 2, .int .i64 14, .int .i64 1, .int .i64 15] 189 rfl (λi hi=>by
  obtain rfl | rfl | rfl | rfl | rfl | rfl | rfl | rfl | rfl | rfl | rfl | rfl | rfl | rfl | rfl | rfl | rfl | rfl | rfl:i=0\/i=1\/i=2\/i=3\/i=4\/i=5\/i=6\/i=7\/i=8\/i=9\/i=10\/i=11\/i=12\/i=13\/i=14\/i=15\/i=16\/i=17\/i=18:=ω;all_goals rfl)
 rw[show(w.alloc (.cells (eB 19 (.int .i64 0)) 3)).heap.size=w.heap.size+1 by simp]at this;exact this.drew
theorem Lh:(Tryz.prog.info? 189).map (λi=>(i.zero,i.size))=some (some (.agg (Array.replicate 19 (.int .i64 0))),19):=by kernel_rfl
theorem LI (h:bA w0 c0 w b0 g M S) (b:Live M S s) (hO:s.Ok) (c:s.st=4):
  Calls Tryz.prog 196 #[.pointer (some ⟨g,0,none⟩)] w (bh w0 c0 b0 g M s):=by
 obtain⟨i0,hi,ab,Z,Y⟩ :=aL mH
 obtain⟨it,hit,am,a2O⟩ :∃it,Tryz.prog.info? 189 =some it/\it.zero=some (.agg (Array.replicate 19 (.int .i64 0)))/\it.size=19:=by
  have h:=Lh;cases u:Tryz.prog.info? 189 with
  | none=>rw[u]at h;simp at h
  | some it=>rw[u]at h;simp at h;exact⟨it,rfl,h.1,h.2⟩
 have HT:=η (And.intro hit (And.intro am a2O));clear hit am a2O;have Hi:=η hi;have gL:=η ab;have fN:=η Z;have gM:=η Y;clear hi ab Z Y
 go_in
 go_wp2;go_loopg [] (s.c2-s.lens.length) (a43 w0 c0 b0 g M S s)
 case atStart=>exact⟨M,s,h, .refl s,b,hO,c,rfl,rfl,rfl,af _⟩
 clear h b hO c;obtain⟨d,t,h,hs,b,hO,c,ho,f,C,B2⟩ :=hrel;obtain⟨cc,cb,ca⟩ :=hO.h4 c;obtain⟨-, -, -, -, -, -, -, -, -, -,bp,W9, -⟩ :=h.cells;have fG:=h.lens.1;rw[b.lens]at fG;have J:=b.x;have Ha:(0:Int)<=d.nl/\(d.nl:Int)<=19/\(0:Int)<=S.c2/\(S.c2:Int)<=19:=by have:=b.c2;omega
 have xJ:=η b.c2;have qc:=η fG;have HB:=η J;by_cases al:(d.nl:Int)<(S.c2:Int)
 · have O:Hid (t.lens.length<t.c2):=by show _<_;have:=xJ.out;have:=qc.out;omega
   by_cases L:t.x.length<3
   · have AU:=η (AG c O.out L);have I:((rb d.B d.a).length:Int)<3:=by rw[J];omega
     clear J L fG C
     go_wp2_with fail;go_region
     all_goals
      go_wp2_with fail;refine(o9 h.drew 3 (.inr (.inr I))).mono ?_;rintro e w1 ⟨rfl,m⟩
      go_wp2_with fail;go_ret;exact⟨d,S,t,5,[],rfl,m,b.err,by rw[ho,ak],by rw[f,ak],σ, .inr (.inl ⟨rfl,hs,AU.out,b⟩)⟩
   have B7:=AJ c O.out L;have I:3<=(rb d.B d.a).length:=by rw[J];omega
   obtain⟨v,hv⟩ :=ν (((num t.x 3:Nat):Int):Int)
   have nA:Hid (∀w2:World,bA w0 c0 w2 b0 g d S->Calls Tryz.prog 201 #[.pointer (some ⟨g,0,none⟩), .int .i64 3] w2 λe w'=>e= .returned (.tuple #[.int .i64 v, .bool true])/\bA w0 c0 w' b0 g { d with a:=d.a+3 } S):=λw2 h2=>by
    have:=vp h2 3 ω I
    rwa [J,hv]at this
   have tM:Hid (rb d.B (d.a+3)=t.x.drop 3):=by show _=_;rw[<-kJ,J]
   have bt:0<=v:=ω;rw[hv]at B7;have HP:=η B7;have vD:Hid (t.step.1.mu<t.mu):=IS.jr (by rw[B7]);clear J L fG I hv B7
   go_wp2_with fail;go_region
   all_goals
    go_wp2_with fail;refine(nA _ h.drew).mono ?_;rintro e w1 ⟨rfl,m⟩;obtain⟨-, -, -, -, -, -, -, -, -, -, -,bs, -⟩ :=m.cells;have je:=m.lens.alloc (.cells #[.int .i64 v] 3);have bI:=m.lo
    go_wp2_with (at_builtin;(refine bm .i64 b0 3 i0 8 rfl (.tmp 34) (.tmp 36) _ rfl Tryz.underlying80 Hi.out gL.out fN.out gM.out rfl je rfl (bT.lit .i64 w1 [v] 3) (by show d.nl+1<=_;omega) ω ξ ?_)
                 intro A4 d4 w4 bM an dY;have iI:=(m.cell.alloc (.cells #[.int .i64 v] 3)).grown an (λe=>m.apart.2.1 e.symm);have K:=iI.az 11;have aE:=iI.aH 11)
    have h5:=m.push v an bM dY;go_roundg (gk-1)
    case measure=>have m:=C.out;have h2:=O.out;omega
    have FM:=IS.Steps.tail hs (by rw[HP.out]);have ap:=hO.step (.inl (by rw[HP.out]));have ah:=vD.out;rw[HP.out]at FM ap ah;exact⟨_,_,h5,FM, ⟨tM.out,b.st,b.last,b.left,b.c0,b.c1,b.c2,by show d.lens++[v]=t.lens++[v];rw[b.lens],λe=>by simp [c]at e,λe=>by simp [c]at e,λe=>by simp [c]at e,λe=>by simp [c]at e,b.tail,b.rem,b.err⟩,ap,c,ho,f,by show gk-1=t.c2-(t.lens++[v]).length;rw[ae];have:=C.out;simp;omega,aq (bE ah) B2.out⟩
 rename World=>wb
 have O:¬t.lens.length<t.c2:=by have:=xJ.out;have:=qc.out;omega
 have R:Hid (bg (iH t.lens) 7≠0\/gS t.lens=true->t.step=(t,3)):=λm=>DO c O m;have ao:Hid (¬(bg (iH t.lens) 7≠0\/gS t.lens=true)->t.step=({ t with hd:=iH t.lens,lens:=[],st:=5 },0)):=λm=>J3 c O m;clear J C O fG;have oL:∀W,(Instr.makeSlice 80 (.int .i64 19) (.int .i64 19)).run Tryz.prog W= .ok (.slice (some ⟨W.heap.size,0,none⟩) 19 19) (W.alloc (.cells (eB 19 (.int .i64 0)) 3)):=λW=>fW (P:=Tryz.prog) 80 3 i0 (.int .i64 0) Tryz.underlying80 Hi.out gL.out fN.out rfl .i64 .i64 19 (by rw[gM.out];omega) ω W;have CN:¬(d.nl:Int)<(S.c2:Int):=al;have be:(d.nl<S.c2)=False:=ξ;have r:=η (Nd wb d.lens);have hW:bA w0 c0 (JC wb) b0 g d S:=h.keeps r.1;obtain⟨-, -, -, -, -, -, -, -, -, -, -,K, -⟩ :=hW.cells;unfold JC at K;have PM:=η h.lens;have Yk:=h.cell.lt;have n:bT .i64 (JC wb) wb.heap.size d.Al d.nl d.lens:=h.lens.rd.below r.1;clear al
 go_wp2_with fail;go_region
 all_goals
  go_upto_region 8 with fail
  refine wp_region_list ?_;refine NS 189 3 19 _ [16,17,18,0,8,7,9,6,10,5,11,4,12,3,13,2,14,1,15] 41 7 rfl rfl rfl rfl rfl rfl rfl rfl rfl Tryz.underlying189 (by kernel_rfl) it HT.1 _ HT.2.1 rfl HT.2.2 rfl rfl rfl ?_
  go_wp2_with fail
  change Code.wp _ _ _ _ (JC wb)
  clear K oL CN be;obtain⟨k,Q⟩ :=ν (wb.heap.size);obtain⟨Al,SN⟩ :=ν (d.Al);obtain⟨nl,A⟩ :=ν (d.nl);obtain⟨l,I⟩ :=ν (d.lens);rw[Q]at r n⊢;rw[SN,A]at n⊢;rw[I]at n r;rw[A]at Ha;have bl:=η Q;have cg:=η SN;have cd:=η A;have EN:=η I;clear Q SN A I;generalize JC wb=wo at r hW n⊢;have z:=η n.1;have bi:=η h;clear h hW;go_loopg [6,47] l.length (a19 wb l k Al nl)
  case atStart=>exact⟨0,aG _,rfl,rfl,rfl,r.1,r.2.1,r.2.2,n⟩
  clear n r;obtain⟨j,hj,C,rfl,rfl,Ms,T,U,n⟩ :=hrel;by_cases sZ:j<nl
  · have bB:(0:Int)<=j/\(j:Int)<(nl:Int)/\(j:Int)<19:=ω;obtain⟨ad,rfl,bG,c1⟩ :=n.at_ sZ;have c2:=U.cell (i:=j) ω;have hp:=OP j ω;have iu:=η (λq (u:q<19)=>OJ (l:=l) (i:=j) ω u);obtain⟨p,yE⟩ :=ν (l8.getD j 0);rw[yE]at c2 hp iu;have z3:=T.frozen' hp;have c3:=T.cell hp;have y:=η (N6 (l:=l) (i:=j) (by rw[<-z.out];exact sZ));obtain⟨x,L⟩ :=ν (ix l j);rw[L]at c1 iu y;have bv:(0:Int)<=p/\(p:Int)<19:=ω
    have B8:Hid (∀nb,nb=gS (l.take (j+1))->a19 wb l k (some ad) nl (gk-1) (.bool nb) (.int .i64 ((j:Int)+1)) (wr.setCell ⟨k,p,none⟩ (.int .i64 x))):=λnb N=>
     ⟨j+1,by rw[<-z.out];omega,by show gk-1=_;have:=C.out;omega,by go_num,by rw[N],Ms.setCell (p:= ⟨k,p,none⟩) (af _) _,(T.iz hp _).congr λq u=>iu.out q u,U.far (p:= ⟨k,p,none⟩) (by show k+1≠k;omega) _,n.keep λq u=>eW (cS _ _ _ _ ξ)⟩
    clear yE L;cases N:gS (l.take j)
    · rw[N]at y;have Y2:Hid (false=gS (l.take (j+1))):=by show _=_;rw[y.out];rfl
      clear y N
      go_wp2_with fail;go_roundg (gk-1)
      case measure=>have:=C.out;have:=z.out;omega
      case rel=>exact B8.out _ Y2.out
    rw[N]at y;by_cases o:x=0
    · have Y2:Hid (true=gS (l.take (j+1))):=by show _=_;rw[y.out,o];rfl
      clear y N;subst o
      go_wp2_with fail;go_roundg (gk-1)
      case measure=>have:=C.out;have:=z.out;omega
      case rel=>exact B8.out _ Y2.out
    have bd:(x==0)=false:=by simpa using o
    have Y2:Hid (false=gS (l.take (j+1))):=by show _=_;rw[y.out,bd];rfl
    clear y N o
    go_wp2_with fail;go_roundg (gk-1)
    case measure=>have:=C.out;have:=z.out;omega
    case rel=>exact B8.out _ Y2.out
  obtain rfl:j=nl:=by have:=z.out;omega
  rw[z.out,List.take_length];rw[z.out]at T;have ac:bT .i64 wr (k+1) (some ⟨k,0,none⟩) 19 (iH l):= ⟨(mR l).symm,(T.rd (B:=k+1) ω (af 19)).congr λq u=>UG u⟩;have og:=T.lt;have ot:l=t.lens:=by rw[<-EN.out,b.lens]
  rw[<-ot]at R ao;have G:=bi.keeps (w':=wr) (by rw[bl.out];exact Ms);have ce:=η ot;have bx:¬(j:Int)<(j:Int):=ω;clear T U n Ms z ot qc xJ;by_cases D:bg (iH l) 7=0
  rotate_left
  · have V:=I9 wr (some ⟨k,0,none⟩) 19 19 (k+1) (iH l) 7 ac ω D;have XZ:=η D;obtain⟨E,hE⟩ :=ν (bg (iH l) 7);rw[hE]at V D;have pn:(E==0)=false:=by simpa using D
    have H:=η V;have GY:(E != 0)=true:=by simpa using D
    generalize gS l=nb;clear D V hE;cases nb
    all_goals
     go_wp2_with fail;refine H.mono ?_;rintro e w3 ⟨rfl,rfl⟩
     go_wp2_with fail;go_ret;exact bh.after hs B2.out f ho (bh.uX (R (.inl XZ.out)) δ δ δ rfl G b.err rfl)
  have V:=nY wr (some ⟨k,0,none⟩) 19 19 (k+1) (iH l) 7 ac og ω D;have XZ:=η D;have H:=η V;clear D V;cases Cn:gS l
  · have EO:=η Cn;clear Cn
    go_wp2_with fail;refine H.mono ?_;rintro e w3 ⟨g3,rfl,Rf,F⟩;have h3:=(G.a0K F Rf (by rw[mR];omega)).1;have X:=G.keeps F;have bo:=X.cell.aH 12;have aE:=X.cell.aH 11;have z5:=X.cell.aH 5;obtain⟨-, -, -, -, -,k5, -, -, -, -, -,W9,Wa, -⟩ :=X.cells;have h4:=h3.Ww.put (i:=5) ω (.int .i64 5) { S with st:=5 } (fc rfl rfl rfl rfl rfl rfl rfl rfl rfl rfl rfl rfl rfl rfl rfl rfl)
    go_wp2_with fail;go_ret;refine bh.after hs B2.out f ho (bh.Us (ao (by rw[XZ.out,EO.out];simp)) rfl h4 ⟨HB.out,rfl,b.last,b.left,b.c0,b.c1,b.c2,rfl,λ_=>rfl,λe=>by simp at e,λe=>by simp at e,λe=>by simp at e,b.tail,b.rem,b.err⟩ rfl)
  have EO:=η Cn;clear Cn
  go_wp2_with fail;refine H.mono ?_;rintro e w3 ⟨g3,rfl,Rf,F⟩;have X:=G.keeps F
  go_wp2_with fail;go_ret;exact bh.after hs B2.out f ho (bh.uX (R (.inr EO.out)) δ δ δ rfl X b.err rfl)
end
set_option maxHeartbeats 4000000
section
variable {w w' w0 w2:World} {b0 g:Nat} {c c0:Nat->Nat} {M M':DM} {S S':DS} {s t t':IS} {b:ag} {v:Int}
theorem bA.fo (a:iy w b0 g c M S) (hd:DE b0 w0 c0 w c) (h:bA w c w' b0 g M' S'):bA w0 c0 w' b0 g M' S':=by
 obtain⟨c',e,b⟩ :=h;exact⟨c',e,hd.step a.lo (λk d=>(a.cb k d).1) b.2.1 b.2.2⟩
theorem bA.restore (h:bA w0 c0 w b0 g M S) {a':Nat} (c:a'<=8*M.B.length):bA w0 c0 ((w.setCell ⟨M.gi,0,none⟩ (.slice M.Ai M.ni M.ci)).setCell ⟨M.gi,1,none⟩ (.int .i64 a')) b0 g { M with a:=a' } S:=by
 have b:=h.lX;refine h.moved (((bb.refl w (λk=>k=M.gi)).setCell (p:= ⟨M.gi,0,none⟩) (.inl rfl) _).setCell (p:= ⟨M.gi,1,none⟩) (.inl rfl) _) ⟨((b.cell.cE 0 _).cE 1 _).congr λi hi=> ?_,b.lo,(b.own.far (p:= ⟨M.gi,0,none⟩) b.apart _).far (p:= ⟨M.gi,1,none⟩) b.apart _,b.apart,b.jc,c⟩;obtain rfl | rfl:i=0\/i=1:=ω
 · rfl
 rfl
def jJ (w0:World) (c0:Nat->Nat) (b0 g:Nat) (M:DM) (S:DS) (t:IS) (e:Ending) (w':World):Prop:=
 ∃M' v t',e= .returned (.int .i64 v)/\bA w0 c0 w' b0 g M' S/\M'.out=M.out/\t'.all=t.all/\
  ((v=0/\t.step=(t',0)/\t'.st=5/\Live M' S t')\/(v=5/\t.step.2=5/\t'=t/\Live M' S t)\/(v≠0/\v≠5/\v≠8/\t.step=(t',v)))
theorem jJ.go (b:t.step=(t',0)) (h5:t'.st=5) (a:t'.all=t.all) (h:bA w0 c0 w' b0 g M' S) (d:Live M' S t') (c:M'.out=M.out):jJ w0 c0 b0 g M S t (.returned (.int .i64 0)) w':=
 ⟨M',0,t',rfl,h,c,a, .inl ⟨rfl,b,h5,d⟩⟩
theorem jJ.lack (a:t.step.2=5) (h:bA w0 c0 w' b0 g M' S) (c:Live M' S t) (b:M'.out=M.out):jJ w0 c0 b0 g M S t (.returned (.int .i64 5)) w':=
 ⟨M',5,t,rfl,h,b,rfl, .inr (.inl ⟨rfl,a,rfl,c⟩)⟩
theorem jJ.bad (b:t.step=(t',v)) (e:v≠0) (h5:v≠5) (d:v≠8) (a:t'.all=t.all) (h:bA w0 c0 w' b0 g M' S) (c:M'.out=M.out):jJ w0 c0 b0 g M S t (.returned (.int .i64 v)) w':=
 ⟨M',v,t',rfl,h,c,a, .inr (.inr ⟨e,h5,d,b⟩)⟩
def a7d (w0:World) (c0:Nat->Nat) (b0 g:Nat) (M:DM) (S:DS) (n:Nat) (K:Int) (k:Nat) (i:Value) (wr:World):Prop:=
 ∃j A2 a c2,j<=n/\Hid (k=n-j)/\i= .int .i64 j/\bA w0 c0 wr b0 g { M with Al:=A2,nl:=a,cl:=c2,lens:=M.lens++List.replicate j K } S
theorem Ik (h:bA w0 c0 w b0 g M S) (b:Live M S t) (hO:t.Ok) (o:t.st=5) (ad:t.lens.length<t.c0+t.c1):
  Calls Tryz.prog 206 #[.pointer (some ⟨g,0,none⟩)] w (jJ w0 c0 b0 g M S t):=by
 obtain⟨c,r,hD⟩ :=h;have C:Below w.heap.size w (w.alloc (.cells #[.slice M.Ai M.ni M.ci, .int .i64 (M.a:Nat)] 223)).drew:=((aw _ w).alloc (af _) _).drew;have D:=r.keeps C;have R:=hD.step (c':=c) r.lo (λk hk=>(r.cb k hk).1) (bb.bC C) (λ_ _=>rfl);have h1:=D.refl;obtain⟨t0,B,gt,hp,Jg,CF,oK,df⟩ :=h1.a9H (b.hd o)
 have sY:c w.heap.size=0:=by
  by_cases e:c w.heap.size=0
  · exact e
  have:=(r.cb _ e).2;omega
 have bG:M.gi<w.heap.size:=r.lX.cell.lt;have og:g<w.heap.size:=r.cell.lt;have J:=xH _ t0 B gt b0 M.gi M.ni M.ci M.a M.Ai t.hd M.B Jg oK D.lX (aq r.bB ω) CF df;rw[show lu=lu from rfl]at J;unfold lu at J;have hb:=b.x;rw[hb]at J;have d:Hid (t.step=t.length):=Jp o ad;unfold IS.length at d;obtain⟨i0,hi,ab,Z,Y⟩ :=aL mH;have Hi:=η hi;have gL:=η ab;have fN:=η Z;have gM:=η Y;clear hi ab Z Y;obtain⟨K,hK⟩ :=ν ((aK t.hd t.x).1);obtain⟨n,hn⟩ :=ν ((aK t.hd t.x).2.1);obtain⟨E,hE⟩ :=ν ((aK t.hd t.x).2.2);have q:Hid (E≠0->n=0):=λh=>by rw[<-hn];exact(sA (by rw[hE];exact h)).2
 have fg:Hid (E=0\/E=3\/E=5):=by have:=eP t.hd t.x;rw[hE]at this;exact this
 have oB:Hid (E=0->0<=K/\K<19/\n<=t.x.length):=λh=>by
  obtain⟨k2,X,e1,e2,e3,e4,e5⟩ :=lU (l:=t.hd) (x:=t.x) hO.bit (by rw[hE,h];simp);have:=(hO.h5 o).2.2.2;rw[e1]at hK hn;simp at hK hn;omega
 rw[hK,hn,hE]at J d;have pj:=η J;have Wa:=r.cell.az 12;rw[show dF M S 12= .pointer (some ⟨gt,0,none⟩) from bf Value.pointer hp]at Wa;have k0:=r.cell.az 0;rw[show dF M S 0= .pointer (some ⟨M.gi,0,none⟩) from rfl]at k0;have r0:=r.lX.cell.az 0;have r1:=r.lX.cell.az 1;rw[show rf M.Ai M.ni M.ci M.a 0= .slice M.Ai M.ni M.ci from rfl]at r0;rw[show rf M.Ai M.ni M.ci M.a 1= .int .i64 (M.a:Nat) from rfl]at r1;obtain⟨ac,be,bd,aE⟩ :=hO.h5 o;have bs:=hO.cc (.inr o);have fG:=r.lens.1;rw[b.lens]at fG;have bt:(0:Int)<=M.nl/\(M.nl:Int)<=316/\(0:Int)<=S.c0/\(S.c0:Int)<=286/\(0:Int)<=S.c1/\(S.c1:Int)<=30:=by have:=b.c0;have:=b.c1;omega
 have qc:=η fG;have HB:=η hb;have cd:=η hp;have f:=η o;have SD:=η sY;have ca:=η ac;clear J hK hn hE hp hb fG o Jg CF oK df h1 sY be aE bd bs ac ad C
 go_in
 go_wp2_with fail;go_cut [4,5] (λs4 s5 wx=>s4= .int .i64 K/\s5= .int .i64 E/\pW wx b0 M.gi M.Ai M.ni M.ci M.B (M.a+n)/\bb (w.alloc (.cells #[.slice M.Ai M.ni M.ci, .int .i64 (M.a:Nat)] 223)).drew wx (λk=>k=M.gi))
 case first=>
  go_region_law
   ((go_simp;go_at_call 207;(refine pj.mono ?_))
    rintro e w5 ⟨rfl,ox,nN⟩)
  all_goals
   go_wp2_with fail;go_meet;exact⟨rfl,rfl,ox,nN⟩
 obtain⟨rfl,rfl,ox,nN⟩ :=hcut;have h5:=D.refl.moved nN ox;have tM:Hid (rb M.B (M.a+n)=t.x.drop n):=by show _=_;rw[<-kJ,HB.out]
 clear ox;by_cases pn:E=0
 rotate_left
 · have GY:(E==0)=false:=by simpa using pn
   have L:=q.out pn;have u:=η (d.trans (aa pn));have bp:=η (fg.resolve_left pn);clear q fg oB d pj;subst L;have h6:=bA.fo D R h5
   go_wp2_with fail;go_ret;rcases bp.out with he | he
   · subst he;exact jJ.bad u.out δ δ δ rfl h6 rfl
   subst he;exact jJ.lack (by rw[u.out]) h6 b rfl
 subst pn;obtain⟨IK,ZA,J⟩ :=oB.out rfl;have jA:=η (d.trans (a8 δ));clear q fg oB d pj;by_cases Fv:K<16
 · have u:=η (jA.trans (aa Fv));clear jA;obtain⟨-, -, -, -, -, -, -, -, -, -, -,v, -⟩ :=h5.cells;have je:=h5.lens.alloc (.cells #[.int .i64 K] 3);have C:=h5.lo
   go_wp2_with (at_builtin;(refine bm .i64 b0 3 i0 8 rfl (.tmp 35) (.tmp 37) _ rfl Tryz.underlying80 Hi.out gL.out fN.out gM.out rfl je rfl (bT.lit .i64 wc [K] 3) (by show M.nl+1<=_;omega) ω ξ ?_)
                intro A4 d4 w4 bM A dY;have iI:=(h5.cell.alloc (.cells #[.int .i64 K] 3)).grown A (λe=>h5.apart.2.1 e.symm);have am:=iI.az 11;have al:=iI.aH 11)
   have h6:=bA.fo D R (h5.push K A bM dY);go_ret;exact jJ.go u.out f.out rfl h6 ⟨tM.out,b.st,b.last,b.left,b.c0,b.c1,b.c2,by show M.lens++[K]=t.lens++[K];rw[b.lens],λ_=>b.hd f.out,λe=>by simp [f.out]at e,λe=>by simp [f.out]at e,λe=>by simp [f.out]at e,b.tail,b.rem,b.err⟩ rfl
 have jU:=η (jA.trans (a8 Fv));clear jA;have m:K=16\/K=17\/K=18:=ω;obtain⟨-, -, -, -, -, -, -, -, -, -, -,v, -⟩ :=h5.cells;obtain⟨Bd,KM⟩ :=ν (decide (K=16/\t.lens.length=0));have G:=η KM;clear KM;go_upto_region 8 with fail
 go_cut [50] (λs wx=>s= .bool Bd/\wx=wc)
 case first=>
  by_cases U:K=16
  · by_cases L:M.nl=0
    · have hd:Hid (true=Bd):=by show _=_;rw[<-G.out];exact(aX ⟨U,by rw[<-qc.out];exact L⟩).symm
      have b1m:wc.cell? ⟨g,11,none⟩ =some (.slice M.Al 0 M.cl):=by rw[<-L];exact v
      clear v L G;subst U
      go_wp2_with fail;go_meet;exact⟨bf Value.bool hd.out,rfl⟩
    have hd:Hid (false=Bd):=by show _=_;rw[<-G.out];exact(aP λh=>L (by rw[qc.out];exact h.2)).symm
    have Yl:((M.nl:Int)==0)=false:=ξ;clear L G;subst U
    go_wp2_with fail;go_meet;exact⟨bf Value.bool hd.out,rfl⟩
  have hd:Hid (false=Bd):=by show _=_;rw[<-G.out];exact(aP λh=>U h.1).symm
  have bo:(K==16)=false:=by simpa using U
  clear U G
  go_wp2_with fail;go_meet;exact⟨bf Value.bool hd.out,rfl⟩
 obtain⟨rfl,rfl⟩ :=hcut;by_cases Q:K=16/\t.lens.length=0
 · have u:=η (jU.trans (aa Q));rw[<-G.out,aX Q];have h6:=bA.fo D R h5;clear Q jU m Fv
   go_wp2_with fail;go_ret;exact jJ.bad u.out δ δ δ rfl h6 rfl
 have kP:=η (jU.trans (a8 Q));rw[<-G.out,aP Q];have vE:K=16->0<M.nl:=λh=>by have:=qc.out;omega
 clear jU Q;by_cases z:(t.x.drop n).length<IS.rW K
 · have u:=η (kP.trans (aa z));have y:=Qt h5 K m (by rw[show({ M with a:=M.a+n }:DM).B=M.B from rfl,show({ M with a:=M.a+n }:DM).a=M.a+n from rfl,tM.out];exact z);have P:=η y;clear y z kP vE m
   go_wp2_with fail;refine P.mono ?_;rintro e V ⟨rfl,h6⟩;obtain⟨c6,ah,O⟩ :=h6;have H:∀i,V.cell? ⟨w.heap.size,i,none⟩ =(w.alloc (.cells #[.slice M.Ai M.ni M.ci, .int .i64 (M.a:Nat)] 223)).drew.cell? ⟨w.heap.size,i,none⟩ :=λi=>O.2.1.cell (p:= ⟨w.heap.size,i,none⟩) σ (λe=>e SD.out);have x0:V.cell? ⟨w.heap.size,0,none⟩ =some (.slice M.Ai M.ni M.ci):=by rw[H 0];simp
   have x1:V.cell? ⟨w.heap.size,1,none⟩ =some (.int .i64 (M.a:Nat)):=by rw[H 1];simp
   have h6:bA _ c V b0 g { M with a:=M.a+n } S:= ⟨c6,ah,O⟩;have j0:=h6.cell.az 0;rw[show dF { M with a:=M.a+n } S 0= .pointer (some ⟨M.gi,0,none⟩) from rfl]at j0;have s0:=h6.lX.cell.az 0;have s1:=h6.lX.cell.az 1;have z0:=h6.lX.cell.aH 0;have z1:=h6.lX.cell.aH 1;have h7:=bA.fo D R (h6.restore (a':=M.a) r.lX.le);clear H ah O
   go_wp2_with fail;go_region
   all_goals
    go_wp2_with fail;go_ret;exact jJ.lack (by rw[u.out]) h7.drew b rfl
 have I:=η (kP.trans (a8 z));unfold IS.kx at I;have pL:=gF (hO.bit.dU n) (IS.rW K);have bi:2 ^ IS.rW K<=2 ^ 7:=bw ω (by rcases m with rfl | rfl | rfl <;> decide);have VE:IS.rB K<=11:=by rcases m with rfl | rfl | rfl <;> decide
 obtain⟨F,N⟩ :∃F:Int,F=if K=16 then ix t.lens (t.lens.length-1)else 0:= ⟨_,rfl⟩;have uq:rb ({ M with a:=M.a+n }:DM).B ({ M with a:=M.a+n }:DM).a=t.x.drop n:=tM.out;obtain⟨T,hT⟩ :=ν (IS.rB K+num (t.x.drop n) (IS.rW K));have y:=Zf h5 K m (by rw[uq];omega) vE (by show M.nl<=1000;omega) (T:Int) F (by rw[uq,hT]) (by rw[N];show _=if K=16 then ix M.lens (M.lens.length-1)else 0;rw[b.lens]);rw[hT]at I;rw[<-N]at I;have bI:(0:Int)<=T/\(T:Int)<=200:=ω;have P:=η y;have VF:Hid (rb M.B (M.a+n+IS.rW K)=(t.x.drop n).drop (IS.rW K)):=by show _=_;rw[<-kJ,tM.out]
 have ap:IntKind.i64.wrap ((M.nl:Int)+(T:Int))=(M.nl:Int)+(T:Int):=aM _ ω;have ao:IntKind.i64.wrap ((S.c0:Int)+(S.c1:Int))=(S.c0:Int)+(S.c1:Int):=aM _ ω;have IX:Hid ((S.c0:Int)+(S.c1:Int)<(M.nl:Int)+(T:Int)↔t.c0+t.c1<t.lens.length+T):=by show _↔_;rw[<-b.c0,<-b.c1,<-qc.out];omega
 clear pL bi VE hT y z kP vE N uq v;generalize IS.rW K=W at*;have bo:K=16\/K=17\/K=18:=m;clear m
 go_wp2_with fail;refine P.mono ?_;rintro e V ⟨rfl,h6⟩;obtain⟨-, -, -, -, -, -, -, -,j8,j9, -,an, -⟩ :=h6.cells;by_cases kh:(S.c0:Int)+(S.c1:Int)<(M.nl:Int)+(T:Int)
 · have u:=η (I.trans (aa (IX.1 kh)));have h7:=bA.fo D R h6.drew;clear I IX
   go_wp2_with fail;go_region
   all_goals
    go_wp2_with fail;go_ret;exact jJ.bad u.out δ δ δ rfl h7 rfl
 have u:=η (I.trans (a8 (λh=>kh (IX.2 h))));clear I IX
 go_wp2_with fail;go_region
 all_goals
  go_wp2_with fail;go_loopg [89] T (a7d (w.alloc (.cells #[.slice M.Ai M.ni M.ci, .int .i64 (M.a:Nat)] 223)).drew c b0 g { M with a:=M.a+n+W } S T F)
  case atStart=>exact⟨0,M.Al,M.nl,M.cl,aG _,rfl,rfl,by rw[List.replicate_zero,ak];exact h6.drew⟩
  clear h6 ap ao j8 j9 an;obtain⟨j,A2,X,c2,hj,hk,rfl,h6⟩ :=hrel;by_cases bx:(j:Int)<(T:Int)
  rotate_left
  · obtain rfl:j=T:=ω;have h7:=bA.fo D R h6
    go_wp2_with fail;go_ret;exact jJ.go u.out f.out rfl h7 ⟨VF.out,b.st,b.last,b.left,b.c0,b.c1,b.c2,by show M.lens++List.replicate _ _=t.lens++List.replicate _ _;rw[b.lens],λ_=>b.hd f.out,λe=>by simp [f.out]at e,λe=>by simp [f.out]at e,λe=>by simp [f.out]at e,b.tail,b.rem,b.err⟩ rfl
  obtain⟨-, -, -, -, -, -, -, -, -, -, -,v, -⟩ :=h6.cells;have je:=h6.lens.alloc (.cells #[.int .i64 F] 3);have C:=h6.lo;have ow:X=(M.lens++List.replicate j F).length:=h6.lens.1;rw[ae,aS,<-r.lens.1]at ow;have bl:X+1<=1000000000000:=ω;have bv:(0:Int)<=X:=ω;clear ow
  go_wp2_with (at_builtin;(refine bm .i64 b0 3 i0 8 rfl (.tmp 95) (.tmp 97) _ rfl Tryz.underlying80 Hi.out gL.out fN.out gM.out rfl je rfl (bT.lit .i64 wr [F] 3) bl ω ξ ?_)
               intro A4 d4 w4 bM A dY;have iI:=(h6.cell.alloc (.cells #[.int .i64 F] 3)).grown A (λe=>h6.apart.2.1 e.symm);have am:=iI.az 11;have al:=iI.aH 11)
  have h7:=h6.push F A bM dY;go_roundg (gk-1)
  case measure=>have:=hk.out;omega
  refine⟨j+1,A4,X+1,d4,ω,by show gk-1=_;have:=hk.out;omega,by go_num, ?_⟩;rw[List.replicate_succ',<-av];exact h7
end
section
variable {w w' w0 w2:World} {b0 g:Nat} {c c0:Nat->Nat} {M M':DM} {S S':DS} {s t t':IS} {b:ag} {v:Int}
theorem bA.a1Z (h:bA w0 c0 w b0 g M S):bA w0 c0 (w.setCell ⟨g,13,none⟩ (.pointer none)) b0 g { M with lp:=none,lt:=none } S/\bA w0 c0 (w.setCell ⟨g,14,none⟩ (.pointer none)) b0 g { M with dp:=none,ds:=none } S:=by
 obtain⟨c,a,hd⟩ :=h;have m:ai M.Ao≠some g:=λe=>by have:=a.co g e;have:=a.cg;omega
 have s:ai M.Al≠some g:=λe=>by have:=a.cl g e;have:=a.cg;omega
 have Bb:∀(i:Nat) (v:Value) (M':DM),i<16->(∀j,j<16->upd (dF M S) i v j=dF M' S j)->M'={ M with hp:=M'.hp,lp:=M'.lp,dp:=M'.dp,hd:=M'.hd,lt:=M'.lt,ds:=M'.ds }->
   (∀l,M'.hd=some l->kS w b0 c M'.hp l)->(∀l,M'.lt=some l->kS w b0 c M'.lp l)->(∀l,M'.ds=some l->kS w b0 c M'.dp l)->bA w0 c0 (w.setCell ⟨g,i,none⟩ v) b0 g M' S:=by
  intro i v M' hi hF t r o n;have d:bb w (w.setCell ⟨g,i,none⟩ v) (λk=>k=g):=(bb.refl w (λk=>k=g)).setCell (p:= ⟨g,i,none⟩) (.inl rfl) v;have f:∀{p l},kS w b0 c p l->kS (w.setCell ⟨g,i,none⟩ v) b0 c p l:=λht=>ht.dx d (λk b=>by subst b;rw[a.cg];decide) λ_ _=>rfl
  refine⟨c, ⟨(a.cell.iz hi v).congr hF,a.cg, ?_, ?_, ?_, ?_, ?_, ?_, ?_, ?_,λl q=>f (r l q),λl q=>f (o l q),λl q=>f (n l q),λk b=> ⟨(a.cb k b).1,aB (a.cb k b).2 d.size⟩, ?_⟩,
   hd.step a.lo (λk b=>(a.cb k b).1) (d.more λk b=>by subst b;rw[a.cg];decide) λ_ _=>rfl⟩
  all_goals rw[t]
  · exact a.lX.dx d (λk b e=>by have:=a.cr k b;have:=a.cg;subst e;omega)
  · exact a.cr
  · exact a.GI.dx d (λk b e=>by have:=a.cw k b;have:=a.cg;subst e;omega)
  · exact a.cw
  · exact d.dJ a.out (λk b e=>by subst e;exact m b)
  · exact a.co
  · exact d.dJ a.lens (λk b e=>by subst e;exact s b)
  · exact a.cl
  exact a.bB
 exact⟨Bb 13 _ _ ω (fc rfl rfl rfl rfl rfl rfl rfl rfl rfl rfl rfl rfl rfl rfl rfl rfl) rfl a.th (λl q=>by simp at q) a.td,Bb 14 _ _ ω (fc rfl rfl rfl rfl rfl rfl rfl rfl rfl rfl rfl rfl rfl rfl rfl rfl) rfl a.th a.tl (λl q=>by simp at q)⟩
def Oa (w w':World) (l:ag) (most:Int) (p:ax):Prop:=
 Below w.heap.size w w'/\((bg l most=0/\∃g,p=some ⟨g,0,none⟩/\yq w' w.heap.size w'.heap.size g l)\/(bg l most≠0/\p=none))
theorem Dh (w:World) (A:ax) (n c B:Nat) (l:ag) (most:Int) (a:bT .i64 w B A n l) (f:B<=w.heap.size) (b:n<=288) (E:Int) (hE:bg l most=E):
  Calls Tryz.prog 120 #[.slice A n c, .int .i64 most] w λe w'=>∃p,e= .returned (.tuple #[.pointer p, .int .i64 E])/\Oa w w' l most p:=by
 subst hE;by_cases h:bg l most=0
 · refine(nY w A n c B l most a f b h).mono ?_;rintro e w' ⟨g,rfl,ht,d⟩;exact⟨_,by rw[h],d, .inl ⟨h,g,rfl,ht⟩⟩
 refine(I9 w A n c B l most a ω h).mono ?_;rintro e w' ⟨rfl,rfl⟩;exact⟨_,rfl,aw _ _, .inr ⟨h,rfl⟩⟩
theorem bA.a6N (h:bA w0 c0 w b0 g M S) {l:ag} {p:ax} {most:Int} (ht:Oa w w' l most p) (f:l.length<=288):
  (∃o,(bg l most=0->o=some l)/\bA w0 c0 (w'.setCell ⟨g,13,none⟩ (.pointer p)) b0 g { M with lp:=p,lt:=o } S)/\
  (∃o,(bg l most=0->o=some l)/\bA w0 c0 (w'.setCell ⟨g,14,none⟩ (.pointer p)) b0 g { M with dp:=p,ds:=o } S):=by
 obtain⟨d, ⟨c,j,rfl,i⟩ | ⟨c,rfl⟩⟩ :=ht
 · obtain⟨-,a,b⟩ :=h.a0K d i f;exact⟨⟨_,λ_=>rfl,a⟩, ⟨_,λ_=>rfl,b⟩⟩
 obtain⟨a,b⟩ :=(h.keeps d).a1Z;exact⟨⟨_,λe=>absurd e c,a⟩, ⟨_,λe=>absurd e c,b⟩⟩
def a4a (w0:World) (c0:Nat->Nat) (b0 g:Nat) (M:DM) (S:DS) (s:IS) (k:Nat) (wr:World):Prop:=
 ∃M' t,bA w0 c0 wr b0 g M' S/\IS.Steps s t/\Live M' S t/\t.Ok/\t.st=5/\M'.out=M.out/\t.all=s.all/\Hid (k=t.mu)/\Hid (t.mu<=s.mu)
def a1a (w0:World) (c0:Nat->Nat) (b0 g:Nat) (M:DM) (S:DS) (l:ag) (wx:World):Prop:=∃p o,(bg l 15=0->o=some l)/\bA w0 c0 wx b0 g { M with lp:=p,lt:=o } S
def a1b (w0:World) (c0:Nat->Nat) (b0 g:Nat) (M:DM) (S:DS) (l:ag) (wx:World):Prop:=∃p o,(bg l 15=0->o=some l)/\bA w0 c0 wx b0 g { M with dp:=p,ds:=o } S
theorem Fc (h:bA w0 c0 w b0 g M S) (c:Live M S s) (hO:s.Ok) (d:s.st=5):
  Calls Tryz.prog 197 #[.pointer (some ⟨g,0,none⟩)] w (bh w0 c0 b0 g M s):=by
 obtain⟨i0,hi,K,J,I⟩ :=aL mH;have Hi:=η hi;have gL:=η K;have fN:=η J;have gM:=η I;clear hi K J I
 go_in
 go_wp2;go_loopg [] s.mu (a4a w0 c0 b0 g M S s)
 case atStart=>exact⟨M,s,h, .refl s,c,hO,d,rfl,rfl,rfl,af _⟩
 clear h c hO d;obtain⟨a,t,h,U,c,hO,d,V,f,hk,Y⟩ :=hrel;obtain⟨T,R,Q,O⟩ :=hO.h5 d;have ab:=hO.cc (.inr d);obtain⟨-, -, -, -, -, -, -, -,k8,k9, -,G, -⟩ :=h.cells;have fG:=h.lens.1;rw[c.lens]at fG;have Ha:(0:Int)<=a.nl/\(a.nl:Int)<=316/\(257:Int)<=S.c0/\(S.c0:Int)<=286/\(1:Int)<=S.c1/\(S.c1:Int)<=30/\(a.nl:Int)<=(S.c0:Int)+(S.c1:Int):=by have:=c.c0;have:=c.c1;omega
 have n:=η c.c0;have EL:=η c.c1;have qc:=η fG;have bs:=η d;have bl:IntKind.i64.wrap ((S.c0:Int)+(S.c1:Int))=(S.c0:Int)+(S.c1:Int):=aM _ ω;by_cases bo:(a.nl:Int)<(S.c0:Int)+(S.c1:Int)
 · have kB:=Ik h.drew c hO d (by have:=n.out;have:=EL.out;have:=qc.out;omega);have L4:=η kB;clear kB fG d T R Q O ab
   go_wp2_with fail;go_region
   all_goals
    go_wp2_with fail;refine L4.mono ?_;rintro e w1 ⟨M2,v,t2,rfl,q,y,IQ,an⟩;rcases an with ⟨rfl,b,z,C⟩ | ⟨rfl,b,rfl,C⟩ | ⟨N,al,ah,b⟩
    · have D:=η b;have Tu:=η z;have m:=η y;have yj:=η IQ;have tU:Hid (t2.mu<t.mu):=by have:=IS.jr (s:=t) (by rw[b]);rw[b]at this;exact this
      clear b z y IQ
      go_wp2_with fail;go_roundg t2.mu
      case measure=>have:=hk.out;have:=tU.out;omega
      have xd:=hO.step (.inl (by rw[D.out]));have kP:=IS.Steps.tail U (by rw[D.out]);rw[D.out]at xd kP;exact⟨M2,t2,q,kP,C,xd,Tu.out,m.trans V,yj.trans f,rfl,aq (bE tU.out) Y.out⟩
    · have D:=η b;have m:=η y;clear b y IQ
      go_wp2_with fail;go_ret;exact bh.after U Y.out f V (bh.lack D.out q C m.out)
    have D:=η b;have m:=η y;have yj:=η IQ;have bi:(v==0)=false:=by simpa using N
    clear b y IQ
    go_wp2_with fail;go_ret;exact bh.after U Y.out f V (bh.uX D.out N al ah yj.out q c.err m.out)
 have l9:¬t.lens.length<t.c0+t.c1:=by have:=n.out;have:=EL.out;have:=qc.out;omega
 have A:=η (Ju d l9);have eY:=h.lens.2.iT;have X:a.nl=S.c0+S.c1:=ω;obtain⟨F,GY⟩ :=ν (bg (t.lens.take t.c0) 15);obtain⟨E,yu⟩ :=ν (bg (t.lens.drop t.c0) 15);have VM:=dR (P:=Tryz.prog) 80 3 Tryz.underlying80 Hi.out fN.out a.Al a.nl a.cl (j:=S.c0) ω;have Jf:=cK (P:=Tryz.prog) 80 3 Tryz.underlying80 Hi.out fN.out a.Al a.nl a.cl (j:=S.c0) ω
 have KC:Hid (∀W,aT .i64 W b0 3 a.Al a.nl a.cl a.lens->Calls Tryz.prog 120 #[.slice a.Al S.c0 a.cl, .int .i64 15] W λe w'=>∃p,e= .returned (.tuple #[.pointer p, .int .i64 F])/\Oa W w' (t.lens.take t.c0) 15 p):=λW hW=>by
  rw[<-n.out,<-c.lens];exact Dh W a.Al S.c0 a.cl _ _ 15 (hW.rd.pre ω) (af _) ω F (by rw[n.out,c.lens];exact GY)
 have KD:Hid (∀W,aT .i64 W b0 3 a.Al a.nl a.cl a.lens->Calls Tryz.prog 120 #[.slice (dw a.Al a.cl S.c0) (a.nl-S.c0) (a.cl-S.c0), .int .i64 15] W λe w'=>∃p,e= .returned (.tuple #[.pointer p, .int .i64 E])/\Oa W w' (t.lens.drop t.c0) 15 p):=λW hW=>by
  rw[<-n.out,<-c.lens];exact Dh W (dw a.Al a.cl S.c0) (a.nl-S.c0) (a.cl-S.c0) _ _ 15 (hW.rd.dw ω eY) (af _) ω E (by rw[n.out,c.lens];exact yu)
 have O4:=η GY;have SF:=η yu
 have Z:Hid ((t.lens.take t.c0).length<=288/\(t.lens.drop t.c0).length<=288):=by
  show _/\_;rw[aD,ay];have:=n.out;have:=EL.out;have:=qc.out;omega
 have a9S:=η eY;have a9X:=η X;have tJ:(256:Int)<(a.nl:Int):=ω;clear GY yu eY X l9 d T R Q O ab fG;have hd:=h.drew
 go_wp2_with fail;go_region
 all_goals
  go_wp2_with fail;go_cut [4] (λs4 wx=>s4= .int .i64 F/\a1a w0 c0 b0 g a S (t.lens.take t.c0) wx)
  case first=>
   go_region_law
    ((go_simp;go_at_call 120;(refine(KC _ (by first | exact h.drew.drew.lens | exact h.drew.lens | exact(h.drewN _).lens)).mono ?_))
     rintro e w5 ⟨p,rfl,hT⟩;have u:=bA.keeps (by first | exact h.drew.drew | exact h.drew | exact h.drewN _) hT.1;have aE:=u.cell.aH 13;have be:=u.cell.az 13)
   all_goals
    have bG:a1a w0 c0 b0 g a S (t.lens.take t.c0) (w5.setCell ⟨g,13,none⟩ (.pointer p)):=by
     obtain⟨⟨o,l,q⟩, -⟩ :=bA.a6N (by first | exact h.drew.drew | exact h.drew | exact h.drewN _) hT Z.1;exact⟨p,o,l,q⟩
    go_wp2_with fail;go_meet;exact⟨rfl,bG⟩
  obtain⟨rfl,p1,o1,tL,l⟩ :=hcut;have ao:=η tL;clear tL k8 k9 G hd;obtain⟨-, -, -, -, -, -, -, -,k8,k9, -,G, -⟩ :=l.cells
  go_wp2_with fail;go_cut [5] (λs5 wx=>s5= .int .i64 E/\a1b w0 c0 b0 g { a with lp:=p1,lt:=o1 } S (t.lens.drop t.c0) wx)
  case first=>
   go_region_law
    ((go_simp;go_at_call 120;(refine(KD _ (by first | exact l.lens | exact l.drew.lens | exact(l.drewN _).lens)).mono ?_))
     rintro e w5 ⟨p,rfl,hT⟩;have u:=bA.keeps (by first | exact l | exact l.drew | exact l.drewN _) hT.1;have ap:=u.cell.aH 14;have bd:=u.cell.az 14)
   all_goals
    have bG:a1b w0 c0 b0 g { a with lp:=p1,lt:=o1 } S (t.lens.drop t.c0) (w5.setCell ⟨g,14,none⟩ (.pointer p)):=by
     obtain⟨-, ⟨o,l,q⟩⟩ :=bA.a6N (by first | exact l | exact l.drew | exact l.drewN _) hT Z.2;exact⟨p,o,l,q⟩
    go_wp2_with fail;go_meet;exact⟨rfl,bG⟩
  obtain⟨rfl,p2,o2,y,q⟩ :=hcut;have m:=η y;clear y k8 k9 G;obtain⟨-, -, -, -, -,k5, -, -, -, -, -,G, -⟩ :=q.cells;have z5:=q.cell.aH 5;obtain⟨ad,hA,bp,Ln⟩ :=q.lens.rd.at_ (i:=256) (by show 256<a.nl;omega);have pY:a.Al=some ad:=hA;obtain⟨x,hx⟩ :=ν (ix a.lens 256);have a4q:wc.cell? ⟨ad.block,ad.off+256,none⟩ =some (.int .i64 x):=by rw[<-hx,<-Hv ad (k:=256) ω];exact Ln
  have ac:Hid (ix t.lens 256=x):=by show _=_;rw[<-c.lens];exact hx
  have b1o:wc.cell? ⟨g,11,none⟩ =some (.slice (some ad) a.nl a.cl):=by rw[<-pY];exact G
  obtain⟨Bd,KM⟩ :=ν (decide (F≠0\/E≠0\/x=0));have r:=η KM;have HA:=η pY;have h3:bA w0 c0 wc b0 g { a with lp:=p1,lt:=o1,dp:=p2,ds:=o2 } S:=q;clear KM hA pY hx Ln G l q;go_upto_region 8 with fail
  go_cut [76] (λs wx=>s= .bool Bd/\wx=wc)
  case first=>
   by_cases H:F=0
   rotate_left
   · have hd:Hid (true=Bd):=by show _=_;rw[<-r.out];exact(aX (.inl H)).symm
     have L:(F==0)=false:=by simpa using H
     clear r
     go_wp2_with fail;go_meet;exact⟨bf Value.bool hd.out,rfl⟩
   by_cases e2:E=0
   · by_cases e3:x=0
     · have hd:Hid (true=Bd):=by show _=_;rw[<-r.out];exact(aX (.inr (.inr e3))).symm
       clear r;subst H e2 e3
       go_wp2_with fail;go_meet;exact⟨bf Value.bool hd.out,rfl⟩
     have hd:Hid (false=Bd):=by show _=_;rw[<-r.out];exact(aP (λh=>by rcases h with h | h | h;exact h H;exact h e2;exact e3 h)).symm
     have L:(x==0)=false:=by simpa using e3
     clear r;subst H e2
     go_wp2_with fail;go_meet;exact⟨bf Value.bool hd.out,rfl⟩
   have hd:Hid (true=Bd):=by show _=_;rw[<-r.out];exact(aX (.inr (.inl e2))).symm
   have L:(E==0)=false:=by simpa using e2
   clear r;subst H
   go_wp2_with fail;go_meet;exact⟨bf Value.bool hd.out,rfl⟩
  obtain⟨rfl,rfl⟩ :=hcut;have z:=η A.out;rw[O4.out,SF.out,ac.out]at z;clear A;by_cases B:F≠0\/E≠0\/x=0
  · have b:=η (z.out.trans (aa B));rw[<-r.out,aX B];clear B z r
    go_wp2_with fail;go_ret;exact bh.after U Y.out f V (bh.uX b.out δ δ δ rfl h3 c.err rfl)
  have b:=η (z.out.trans (a8 B));have yD:=η (ao (by rw[O4.out];exact bK.1 λh=>B (.inl h)));have am:=η (m (by rw[SF.out];exact bK.1 λh=>B (.inr (.inl h))));rw[<-r.out,aP B];have h4:=h3.put (i:=5) ω (.int .i64 6) { S with st:=6 } (fc rfl rfl rfl rfl rfl rfl rfl rfl rfl rfl rfl rfl rfl rfl rfl rfl);clear B z r
  go_wp2_with fail;go_ret;exact bh.after U Y.out f V (bh.Us b.out rfl h4 ⟨c.x,rfl,c.last,c.left,c.c0,c.c1,c.c2,c.lens,λe=>by simp at e,λ_=>yD.out,λ_=>am.out,λe=>by simp at e,c.tail,c.rem,c.err⟩ rfl)
end
section
variable {w w' w0 w2:World} {b0 g:Nat} {c c0:Nat->Nat} {M M':DM} {S S':DS} {s t t':IS} {b:ag} {v:Int}
theorem xP (h:bA w0 c0 w b0 g M S) (j:Nat) (x:j<=8*M.B.length) (B:Int) (N:Nat) (t:(rb M.B M.a).length<N):
  Calls Tryz.prog 208 #[.pointer (some ⟨g,0,none⟩), .agg #[.slice M.Ai M.ni M.ci, .int .i64 j], .int .i64 B, .int .i64 N] w λe w'=>e= .returned (.tuple #[.int .i64 0, .int .i64 5])/\bA w0 c0 w' b0 g { M with a:=j } S:=by
 obtain⟨c,l,hD⟩ :=h;have d:Below w.heap.size w (w.alloc (.cells #[.slice M.Ai M.ni M.ci, .int .i64 (j:Nat)] 223)):=((aw _ w).alloc (af _) _);have r:=l.keeps d;have y:=hD.step (c':=c) l.lo (λk u=>(l.cb k u).1) (bb.bC d) (λ_ _=>rfl)
 have o:c w.heap.size=0:=by
  by_cases e:c w.heap.size=0
  · exact e
  have:=(l.cb _ e).2;omega
 have v:M.gi<w.heap.size:=l.lX.cell.lt;have I:g<w.heap.size:=l.cell.lt;have A:=η o;have q:=o9 r.refl N (.inr (.inr ω));have a1L:=η q;clear o q t d
 go_in
 go_wp2_with fail;refine a1L.mono ?_;rintro e n ⟨rfl,h6⟩;obtain⟨z,m,f⟩ :=h6;have b:∀i,n.cell? ⟨w.heap.size,i,none⟩ =(w.alloc (.cells #[.slice M.Ai M.ni M.ci, .int .i64 (j:Nat)] 223)).cell? ⟨w.heap.size,i,none⟩ :=λi=>f.2.1.cell (p:= ⟨w.heap.size,i,none⟩) σ (λe=>e A.out);have F:n.cell? ⟨w.heap.size,0,none⟩ =some (.slice M.Ai M.ni M.ci):=by rw[b 0];simp
 have E:n.cell? ⟨w.heap.size,1,none⟩ =some (.int .i64 (j:Nat)):=by rw[b 1];simp
 have h6:bA _ c n b0 g M S:= ⟨z,m,f⟩;have s:=h6.cell.az 0;rw[show dF M S 0= .pointer (some ⟨M.gi,0,none⟩) from rfl]at s;have H:=h6.lX.cell.az 0;have G:=h6.lX.cell.az 1;have D:=h6.lX.cell.aH 0;have C:=h6.lX.cell.aH 1;have h7:=bA.fo r y (h6.restore (a':=j) x);clear b m f
 go_wp2_with fail;go_region
 all_goals
  go_wp2_with fail
  go_ret2
  exact⟨rfl,h7.drew⟩
theorem Ds (h:bA w0 c0 w b0 g M S) (x:Value) (q:∃A n c a,x= .agg #[.slice A n c, .int .i64 a]) (B:Int) (u:0<=B/\B<=100000) (N:Nat) (hN:N<=20) (j:N<=(rb M.B M.a).length) (V:Int) (i:V=B+((num (rb M.B M.a) N:Nat):Int)):
  Calls Tryz.prog 208 #[.pointer (some ⟨g,0,none⟩),x, .int .i64 B, .int .i64 N] w λe w'=>e= .returned (.tuple #[.int .i64 V, .int .i64 0])/\bA w0 c0 w' b0 g { M with a:=M.a+N } S:=by
 obtain⟨p,l,m,o,rfl⟩ :=q;have d:Below w.heap.size w (w.alloc (.cells #[.slice p l m, .int .i64 o] 223)):=((aw _ w).alloc (af _) _);have s:=h.keeps d;have b:=gF (dH.rb M.B M.a) N;have hp:2 ^ N<=2 ^ 20:=bw ω hN;have f:=vp s N ω j;obtain⟨U,k⟩ :=ν (num (rb M.B M.a) N);rw[k]at i f b;have r:(0:Int)<=U/\(U:Int)<1048576:=ω;have a1L:=η f;have HV:=η i;clear f j d i k b hp hN
 go_in
 go_wp2_with fail;refine a1L.mono ?_;rintro e t ⟨rfl,h6⟩
 go_wp2_with fail
 go_ret2
 exact⟨by rw[HV.out];rfl,h6⟩
theorem Lx {out a:ag} (h:uU out a) {D N:Nat} (c:1<=D) (b:D<=a.length):Oq a D N=again out D N:=by
 unfold Oq again;refine dn λi _=> ?_;rw[<-lS,h.back b,lS]
end
section
variable {w w' w0 w2:World} {b0 g:Nat} {c c0:Nat->Nat} {M M':DM} {S S':DS} {s t t':IS} {b:ag} {v:Int}
theorem LN (h:bA w0 c0 w b0 g M S) (d:Live M S t) (hO:t.Ok) (A:t.st=6) (mg:M.out.length<=10000000000) (jL:(t.rem:Int)<=4611686018427387904):
  Calls Tryz.prog 198 #[.pointer (some ⟨g,0,none⟩)] w (bh w0 c0 b0 g M t):=by
 obtain⟨c,s,hD⟩ :=h;have H:Below w.heap.size w (w.alloc (.cells #[.slice M.Ai M.ni M.ci, .int .i64 (M.a:Nat)] 223)).drew:=((aw _ w).alloc (af _) _).drew;have z:=s.keeps H;have J:=hD.step (c':=c) s.lo (λk D=>(s.cb k D).1) (bb.bC H) (λ_ _=>rfl);have h1:=z.refl;obtain⟨t0,B,gt,hp,Jg,CF,oK,df⟩ :=h1.a9I (d.lt (.inl A))
 have sY:c w.heap.size=0:=by
  by_cases e:c w.heap.size=0
  · exact e
  have:=(s.cb _ e).2;omega
 have be:M.gi<w.heap.size:=s.lX.cell.lt;have og:g<w.heap.size:=s.cell.lt;have P:=xH _ t0 B gt b0 M.gi M.ni M.ci M.a M.Ai t.lt M.B Jg oK z.lX (aq s.bB ω) CF df;unfold lu at P;have hb:=d.x;rw[hb]at P;have f:Hid (t.step=t.token):=Kp A;unfold IS.token at f;obtain⟨K,hK⟩ :=ν ((aK t.lt t.x).1);obtain⟨n,U⟩ :=ν ((aK t.lt t.x).2.1);obtain⟨E,hE⟩ :=ν ((aK t.lt t.x).2.2);have o:Hid (E≠0->n=0):=λh=>by rw[<-U];exact(sA (by rw[hE];exact h)).2
 have fg:Hid (E=0\/E=3\/E=5):=by have:=eP t.lt t.x;rw[hE]at this;exact this
 have oB:Hid (E=0->0<=K/\K<288/\n<=t.x.length):=λh=>by
  obtain⟨k2,n2,e1,e2,e3,e4,e5⟩ :=lU (l:=t.lt) (x:=t.x) hO.bit (by rw[hE,h];simp);rw[e1]at hK U;simp at hK U;omega
 rw[hK,U,hE]at P f;have pj:=η P;have Wa:=s.cell.az 13;rw[show dF M S 13= .pointer (some ⟨gt,0,none⟩) from bf Value.pointer hp]at Wa;have k0:=s.cell.az 0;rw[show dF M S 0= .pointer (some ⟨M.gi,0,none⟩) from rfl]at k0;have r0:=s.lX.cell.az 0;have r1:=s.lX.cell.az 1;rw[show rf M.Ai M.ni M.ci M.a 0= .slice M.Ai M.ni M.ci from rfl]at r0;rw[show rf M.Ai M.ni M.ci M.a 1= .int .i64 (M.a:Nat) from rfl]at r1;have HB:=η hb;have bp:=η hp;have q:=η A;have SD:=η sY;clear P hK U hE hp hb A Jg CF oK df h1 sY H
 go_in
 go_wp2_with fail;go_cut [4,5] (λs4 s5 wx=>s4= .int .i64 K/\s5= .int .i64 E/\pW wx b0 M.gi M.Ai M.ni M.ci M.B (M.a+n)/\bb (w.alloc (.cells #[.slice M.Ai M.ni M.ci, .int .i64 (M.a:Nat)] 223)).drew wx (λk=>k=M.gi))
 case first=>
  go_region_law
   ((go_simp;go_at_call 207;(refine pj.mono ?_))
    rintro e w5 ⟨rfl,ox,X⟩)
  all_goals
   go_wp2_with fail;go_meet;exact⟨rfl,rfl,ox,X⟩
 obtain⟨rfl,rfl,ox,X⟩ :=hcut;have h5:=z.refl.moved X ox;have x0:wc.cell? ⟨w.heap.size,0,none⟩ =some (.slice M.Ai M.ni M.ci):=by rw[X.cell (p:= ⟨w.heap.size,0,none⟩) σ (by show¬w.heap.size=M.gi;omega)];simp
 have x1:wc.cell? ⟨w.heap.size,1,none⟩ =some (.int .i64 (M.a:Nat)):=by rw[X.cell (p:= ⟨w.heap.size,1,none⟩) σ (by show¬w.heap.size=M.gi;omega)];simp
 have T:Hid (rb M.B (M.a+n)=t.x.drop n):=by show _=_;rw[<-kJ,HB.out]
 have kh:=s.bB;have C:=d.rem;clear ox;by_cases pn:E=0
 rotate_left
 · have GY:(E==0)=false:=by simpa using pn
   have nG:=o.out pn;have m:=η (f.trans (aa pn));have ap:=η (fg.resolve_left pn);clear o fg oB f pj C;subst nG;have h6:=bA.fo z J h5
   go_wp2_with fail;go_ret;rcases ap.out with he | he
   · subst he;exact bh.uX m.out δ δ δ rfl h6 d.err rfl
   subst he;exact bh.lack (by rw[m.out]) h6 d rfl
 subst pn;obtain⟨IK,ZA,P⟩ :=oB.out rfl;have jA:=η (f.trans (a8 δ));clear o fg oB f pj;by_cases tR:K<256
 · have m:=η (jA.trans (aa tR));unfold IS.emit at m;have r:Hid (S.most=t.rem):=C;have cW:=bT.lit .u8 wc [K] 5;have kE:Below wc.heap.size wc (wc.alloc (.cells ([K].map (Value.int .u8)).toArray 5)):=(aw _ wc).alloc (af _) _;have h6:=h5.keeps kE;have ao:Hid (∀k,foot M.Aw M.gw k->k<wc.heap.size):=λk D=>(h5.GI.eG D).2;obtain⟨-,k1, -⟩ :=h6.cells;rw[show([K].map (Value.int .u8)).toArray= #[Value.int .u8 K] from rfl]at k1;have ZJ:=uM _ _ _ _ _ _ _ 1 _ _ _ _ h6.GI cW σ σ;have a6W:=η ZJ;clear jA C ZJ kE
   go_wp2_with fail;refine a6W.mono ?_;rintro e w7 ⟨A7,n7,c7,rfl,ah,H9,MA⟩
   have h7:=h6.C6 H9 ah (λk D=>by
    rcases D with D | D
    · exact .inl (.inl D)
    exact(MA k D).imp (λe=> .inr e) id)
   have al:=H9.rp cW σ (λ_ ad hA hf=>by
    injection hA with hA;subst hA;have:=ao.out _ hf;simp at this)
   have G:=wW h7 _ 1 1 _ [K] al (by have:=H9.size;simp at this;omega) (af _) ω mg (by show((S.most:Nat):Int)<=_;rw[r.out];exact jL);unfold mO at G;by_cases hz:t.rem=0
   · rw[aa (show S.most < [K].length by rw[r.out,hz];simp)]at G;have L3:=η G;have HZ:=η hz;clear G hz
     go_wp2_with fail;refine L3.mono ?_;rintro e w8 ⟨A8,n8,c8,rfl,N⟩
     go_wp2_with fail;go_ret;have F:t.step=({ t with x:=t.x.drop n,aj:=t.aj++[bY.mk K 0 0],all:=t.all++[K].take t.rem,rem:=t.rem - [K].length },6):=m.trans (by rw[aa (by rw[HZ.out];simp)]);refine bh.bad (b:=[K].take t.rem) F δ δ δ rfl (by rw[aD];simp;omega) (bA.fo z J N) d.err (by rw[r.out])
   rw[a8 (show¬S.most < [K].length by rw[r.out];simp;omega)]at G;have L3:=η G;have HZ:Hid ([K].take t.rem=[K]):=aA ξ;have aE:Hid (¬t.rem < [K].length):=by show¬_;simp;omega
   clear G hz
   go_wp2_with fail;refine L3.mono ?_;rintro e w8 ⟨A8,n8,c8,rfl,N⟩
   go_wp2_with fail;go_ret;have F:t.step=({ t with x:=t.x.drop n,aj:=t.aj++[bY.mk K 0 0],all:=t.all++[K].take t.rem,rem:=t.rem - [K].length },0):=m.trans (by rw[a8 aE.out]);refine bh.go (b:=[K].take t.rem) F rfl (by rw[HZ.out];simp) (bA.fo z J N) ⟨T.out,d.st,d.last,d.left,d.c0,d.c1,d.c2,d.lens,λe=>by simp [q.out]at e,λ_=>d.lt (.inl q.out),λ_=>d.ds (.inl q.out),λe=>by simp [q.out]at e, ?_, ?_,d.err⟩ (by rw[r.out])
   · show uU (t.all++[K].take t.rem) _;rw[HZ.out];exact d.tail.add [K]
   show S.most - [K].length=t.rem - [K].length;rw[r.out]
 have jU:=η (jA.trans (a8 tR));clear jA C;by_cases u:K=256
 · have m:=η (jU.trans (aa u));have Ja:=Dx h5;have bd:=η Ja;clear jU Ja;subst u
   go_wp2_with fail;refine bd.mono ?_;rintro e w6 ⟨rfl,h6⟩
   go_wp2_with fail;go_ret;have am:({ t with x:=t.x.drop n }:IS).over.all=t.all:=by unfold IS.over;split <;> rfl
   refine bh.Us m.out am (bA.fo z J h6) ?_ (by split <;> rfl);have an:=h5.lX.le;cases DT:S.last with
   | true=>
     have W:t.last=true:=by rw[<-d.last];exact DT
     unfold IS.over;rw[aa (show({ t with x:=t.x.drop n }:IS).last=true from W),aa rfl,aa rfl];exact⟨by show rb M.B ((M.a+n+7)/8*8)=ly (t.x.drop n);rw[Gg an,T.out],rfl,by show true=t.last;rw[W],d.left,d.c0,d.c1,d.c2,d.lens,λe=>by simp at e,λe=>by simp at e,λe=>by simp at e,λe=>by simp at e,d.tail,d.rem,d.err⟩
   | false=>
     have W:t.last=false:=by rw[<-d.last];exact DT
     unfold IS.over;rw[a8 (show¬({ t with x:=t.x.drop n }:IS).last=true by show¬t.last=true;rw[W];decide),a8 δ,a8 δ];exact⟨T.out,rfl,by show false=t.last;rw[W],d.left,d.c0,d.c1,d.c2,d.lens,λe=>by simp at e,λe=>by simp at e,λe=>by simp at e,λe=>by simp at e,d.tail,d.rem,d.err⟩
 have kP:=η (jU.trans (a8 u));have bo:(K==256)=false:=by simpa using u
 clear jU;by_cases I:285<K
 · have m:=η (kP.trans (aa I));have V:=FX K (.inr I) ω wc;have SG:=η V;have h6:=bA.fo z J h5;clear kP V u
   go_wp2_with fail;refine SG.mono ?_;rintro e w6 ⟨rfl,rfl⟩
   go_wp2_with fail;go_ret;exact bh.uX m.out δ δ δ rfl h6 d.err rfl
 have O:=η (kP.trans (a8 I));obtain⟨j,hj⟩ :=ν ((K-257).toNat);have xh:j<29:=ω;have V:=qG j xh K ω wc;have SG:=η V;rw[hj]at O;have kA:=Jm j xh;obtain⟨Q,Z⟩ :=ν (lB j);obtain⟨LE,Y⟩ :=ν (lE j);rw[Z,Y]at SG O kA;have bi:(0:Int)<=Q/\(Q:Int)<=258/\(0:Int)<=LE/\(LE:Int)<=5:=ω;have R:rb ({ M with a:=M.a+n }:DM).B ({ M with a:=M.a+n }:DM).a=t.x.drop n:=T.out;clear kP V hj xh Z Y kA u;by_cases v:(t.x.drop n).length<LE
 · have m:=η (O.trans (aa v));have y:Calls Tryz.prog 208 #[.pointer (some ⟨g,0,none⟩), .agg #[.slice M.Ai M.ni M.ci, .int .i64 M.a], .int .i64 Q, .int .i64 LE] wc λe w'=>e= .returned (.tuple #[.int .i64 0, .int .i64 5])/\bA (w.alloc (.cells #[.slice M.Ai M.ni M.ci, .int .i64 (M.a:Nat)] 223)).drew c w' b0 g M S:=xP h5 M.a s.lX.le Q LE (by rw[R];exact v);have Hm:=η y;clear v O y R
   go_wp2_with fail;refine SG.mono ?_;rintro e w6 ⟨rfl,rfl⟩
   go_wp2_with fail;refine Hm.mono ?_;rintro e w7 ⟨rfl,h7⟩;have ab:=h7.cell.aH 15;have ac:=h7.cell.az 15;have N:=bA.fo z J (h7.put (i:=15) ω (.int .i64 0) { S with len:=0 } (fc rfl rfl rfl rfl rfl rfl rfl rfl rfl rfl rfl rfl rfl rfl rfl rfl))
   go_wp2_with fail;go_ret;exact bh.lack (by rw[m.out]) N ⟨d.x,d.st,d.last,d.left,d.c0,d.c1,d.c2,d.lens,d.hd,d.lt,d.ds,λe=>by simp [q.out]at e,d.tail,d.rem,d.err⟩ rfl
 have m:=η (O.trans (a8 v));obtain⟨L,rD⟩ :=ν (Q+num (t.x.drop n) LE);have y:=Ds h5 (.agg #[.slice M.Ai M.ni M.ci, .int .i64 M.a]) ⟨_,_,_,_,rfl⟩ Q ω LE ω (by rw[R];omega) (L:Int) (by rw[R,<-rD];simp);rw[rD]at m;have Hm:=η y;have VF:Hid (rb M.B (M.a+n+LE)=(t.x.drop n).drop LE):=by show _=_;rw[<-kJ,T.out]
 have bl:(0:Int)<=L:=ω;clear v O y R rD
 go_wp2_with fail;refine SG.mono ?_;rintro e w6 ⟨rfl,rfl⟩
 go_wp2_with fail;refine Hm.mono ?_;rintro e w7 ⟨rfl,h7⟩;have ab:=h7.cell.aH 15;have ac:=h7.cell.az 15;have z5:=h7.cell.aH 5;have k5:=h7.cell.az 5;have N:=bA.fo z J ((h7.put (i:=15) ω (.int .i64 L) { S with len:=L } (fc rfl rfl rfl rfl rfl rfl rfl rfl rfl rfl rfl rfl rfl rfl rfl rfl)).put (i:=5) ω (.int .i64 7) { S with len:=L,st:=7 } (fc rfl rfl rfl rfl rfl rfl rfl rfl rfl rfl rfl rfl rfl rfl rfl rfl))
 go_wp2_with fail;go_ret;exact bh.Us m.out rfl N ⟨VF.out,rfl,d.last,d.left,d.c0,d.c1,d.c2,d.lens,λe=>by simp at e,λ_=>d.lt (.inl q.out),λ_=>d.ds (.inl q.out),λ_=>rfl,d.tail,d.rem,d.err⟩ rfl
end
section
variable {w w' w0 w2:World} {b0 g:Nat} {c c0:Nat->Nat} {M M':DM} {S S':DS} {s t t':IS} {b:ag} {v:Int}
theorem CB (h:bA w0 c0 w b0 g M S) (f:Live M S t) (hO:t.Ok) (y:t.st=7) (mg:M.out.length<=10000000000) (jL:(t.rem:Int)<=4611686018427387904):
  Calls Tryz.prog 199 #[.pointer (some ⟨g,0,none⟩)] w (bh w0 c0 b0 g M t):=by
 obtain⟨c,o,hD⟩ :=h;have L:Below w.heap.size w (w.alloc (.cells #[.slice M.Ai M.ni M.ci, .int .i64 (M.a:Nat)] 223)).drew:=((aw _ w).alloc (af _) _).drew;have z:=o.keeps L;have F:=hD.step (c':=c) o.lo (λk J=>(o.cb k J).1) (bb.bC L) (λ_ _=>rfl);have h1:=z.refl;obtain⟨t0,B,gt,hp,Jg,CF,oK,df⟩ :=h1.a9G (f.ds (.inr y))
 have sY:c w.heap.size=0:=by
  by_cases e:c w.heap.size=0
  · exact e
  have:=(o.cb _ e).2;omega
 have bt:M.gi<w.heap.size:=o.lX.cell.lt;have og:g<w.heap.size:=o.cell.lt;have R:=xH _ t0 B gt b0 M.gi M.ni M.ci M.a M.Ai t.ds M.B Jg oK z.lX (aq o.bB ω) CF df;unfold lu at R;have hb:=f.x;rw[hb]at R;have d:Hid (t.step=t.bn):=Dv y;unfold IS.bn at d;obtain⟨K,hK⟩ :=ν ((aK t.ds t.x).1);obtain⟨n,Y⟩ :=ν ((aK t.ds t.x).2.1);obtain⟨E,hE⟩ :=ν ((aK t.ds t.x).2.2);have m:Hid (E≠0->n=0):=λh=>by rw[<-Y];exact(sA (by rw[hE];exact h)).2
 have fg:Hid (E=0\/E=3\/E=5):=by have:=eP t.ds t.x;rw[hE]at this;exact this
 have oB:Hid (E=0->0<=K/\K<288/\n<=t.x.length):=λh=>by
  obtain⟨k2,n2,e1,e2,e3,e4,e5⟩ :=lU (l:=t.ds) (x:=t.x) hO.bit (by rw[hE,h];simp);rw[e1]at hK Y;simp at hK Y;omega
 rw[hK,Y,hE]at R d;have pj:=η R;have Wa:=o.cell.az 14;rw[show dF M S 14= .pointer (some ⟨gt,0,none⟩) from bf Value.pointer hp]at Wa;have k0:=o.cell.az 0;rw[show dF M S 0= .pointer (some ⟨M.gi,0,none⟩) from rfl]at k0;have r0:=o.lX.cell.az 0;have r1:=o.lX.cell.az 1;rw[show rf M.Ai M.ni M.ci M.a 0= .slice M.Ai M.ni M.ci from rfl]at r0;rw[show rf M.Ai M.ni M.ci M.a 1= .int .i64 (M.a:Nat) from rfl]at r1;have HB:=η hb;have bI:=η hp;have A:=η y;have SD:=η sY;clear R hK Y hE hp hb y Jg CF oK df h1 sY L
 go_in
 go_wp2_with fail;go_cut [4,5] (λs4 s5 wx=>s4= .int .i64 K/\s5= .int .i64 E/\pW wx b0 M.gi M.Ai M.ni M.ci M.B (M.a+n)/\bb (w.alloc (.cells #[.slice M.Ai M.ni M.ci, .int .i64 (M.a:Nat)] 223)).drew wx (λk=>k=M.gi))
 case first=>
  go_region_law
   ((go_simp;go_at_call 207;(refine pj.mono ?_))
    rintro e w5 ⟨rfl,ox,nN⟩)
  all_goals
   go_wp2_with fail;go_meet;exact⟨rfl,rfl,ox,nN⟩
 obtain⟨rfl,rfl,ox,nN⟩ :=hcut;have h5:=z.refl.moved nN ox;have x0:wc.cell? ⟨w.heap.size,0,none⟩ =some (.slice M.Ai M.ni M.ci):=by rw[nN.cell (p:= ⟨w.heap.size,0,none⟩) σ (by show¬w.heap.size=M.gi;omega)];simp
 have x1:wc.cell? ⟨w.heap.size,1,none⟩ =some (.int .i64 (M.a:Nat)):=by rw[nN.cell (p:= ⟨w.heap.size,1,none⟩) σ (by show¬w.heap.size=M.gi;omega)];simp
 have tM:Hid (rb M.B (M.a+n)=t.x.drop n):=by show _=_;rw[<-kJ,HB.out]
 have kh:=o.bB;have H:=f.rem;clear ox;by_cases pn:E=0
 rotate_left
 · have GY:(E==0)=false:=by simpa using pn
   have nG:=m.out pn;have r:=η (d.trans (aa pn));have be:=η (fg.resolve_left pn);clear m fg oB d pj H;subst nG;have h6:=bA.fo z F h5
   go_wp2_with fail;go_ret;rcases be.out with he | he
   · subst he;exact bh.uX r.out δ δ δ rfl h6 f.err rfl
   subst he;exact bh.lack (by rw[r.out]) h6 f rfl
 subst pn;obtain⟨IK,ZA,R⟩ :=oB.out rfl;have jA:=η (d.trans (a8 δ));clear m fg oB d pj;obtain⟨ao,ap⟩ :=hO.h7 A.out;have Z:=f.len A.out;have HLEN:=η Z;have q:=η H;clear H Z;by_cases ad:29<K
 · have r:=η (jA.trans (aa ad));have J6:=CC K (.inr ω) wc;have U:=η J6;have h6:=bA.fo z F h5;clear jA J6
   go_wp2_with fail;refine U.mono ?_;rintro e w6 ⟨rfl,rfl⟩
   go_wp2_with fail;go_ret;exact bh.uX r.out δ δ δ rfl h6 f.err rfl
 have Q:=η (jA.trans (a8 ad));obtain⟨j,hj⟩ :=ν (K.toNat);have xh:j<30:=ω;have J6:=oV j xh K ω wc;have U:=η J6;rw[hj]at Q
 have kA:dB j<=32768/\dE j<=13:=by
  have:∀j,j<30->dB j<=32768/\dE j<=13:=by decide+kernel
  exact this j xh
 have vJ:=λv=> @U5 j v xh;obtain⟨T,ac⟩ :=ν (dB j);obtain⟨LE,ab⟩ :=ν (dE j);rw[ac,ab]at U Q kA vJ;have bx:(0:Int)<=T/\(T:Int)<=32768/\(0:Int)<=LE/\(LE:Int)<=13:=ω;have V:rb ({ M with a:=M.a+n }:DM).B ({ M with a:=M.a+n }:DM).a=t.x.drop n:=tM.out;clear jA J6 hj xh ac ab kA;by_cases s:(t.x.drop n).length<LE
 · have r:=η (Q.trans (aa s));have u:Calls Tryz.prog 208 #[.pointer (some ⟨g,0,none⟩), .agg #[.slice M.Ai M.ni M.ci, .int .i64 M.a], .int .i64 T, .int .i64 LE] wc λe w'=>e= .returned (.tuple #[.int .i64 0, .int .i64 5])/\bA (w.alloc (.cells #[.slice M.Ai M.ni M.ci, .int .i64 (M.a:Nat)] 223)).drew c w' b0 g M S:=xP h5 M.a o.lX.le T LE (by rw[V];exact s);have Hm:=η u;clear s Q u V vJ
   go_wp2_with fail;refine U.mono ?_;rintro e w6 ⟨rfl,rfl⟩
   go_wp2_with fail;refine Hm.mono ?_;rintro e w7 ⟨rfl,h7⟩;have h8:=bA.fo z F h7
   go_wp2_with fail;go_ret;exact bh.lack (by rw[r.out]) h8 f rfl
 have P:=η (Q.trans (a8 s));unfold IS.text at P;have CU:=gF (hO.bit.dU n) LE;have F:Hid (DE b0 w0 c0 (w.alloc (.cells #[.slice M.Ai M.ni M.ci, .int .i64 (M.a:Nat)] 223)).drew c):=F;have bl:=vJ _ CU;obtain⟨D,UE⟩ :=ν (T+num (t.x.drop n) LE);have u:=Ds h5 (.agg #[.slice M.Ai M.ni M.ci, .int .i64 M.a]) ⟨_,_,_,_,rfl⟩ T ω LE ω (by rw[V];omega) (D:Int) (by rw[V,<-UE];simp);rw[UE]at P bl;have Hm:=η u;have VF:Hid (rb M.B (M.a+n+LE)=(t.x.drop n).drop LE):=by show _=_;rw[<-kJ,tM.out]
 have bG:(1:Int)<=D/\(D:Int)<=32768:=ω;have FN:=f.tail.len;have I:M.nw=M.l.length:=o.GI.mW;have bs:(3:Int)<=(S.len:Int)/\(S.len:Int)<=258:=by have:=HLEN.out;omega
 have bv:Hid (M.nw=M.l.length):=I;clear s Q u V UE vJ CU ao ap;by_cases FC:t.all.length<D
 · have r:=η (P.trans (aa FC))
   have O:Hid (∀W,yP W b0 M.gw M.Aw M.nw M.cw M.l->Calls Tryz.prog 209 #[.pointer (some ⟨M.gw,0,none⟩), .int .i64 S.len, .int .i64 D] W λe w'=>e= .returned (.tuple #[.slice none 0 0, .int .i64 3])/\W=w'):=λW hW=>by
    refine(Qj W b0 M.gw M.nw M.cw M.Aw M.l hW S.len D ⟨ω,ω⟩ (.inr ω)).mono ?_;rintro e w' ⟨rfl,hq⟩;exact⟨rfl,hq⟩
   clear FC P FN I
   go_wp2_with fail;refine U.mono ?_;rintro e w6 ⟨rfl,rfl⟩
   go_wp2_with fail;refine Hm.mono ?_;rintro e w7 ⟨rfl,h7⟩;have k1:=h7.cell.az 1;have al:=h7.cell.az 15
   go_wp2_with fail
   go_region_law
    ((go_simp;go_at_call 209;(refine(O _ (by first | exact h7.GI | exact h7.drew.GI)).mono ?_))
     rintro e w8 ⟨rfl,rfl⟩)
   all_goals
    go_wp2_with fail;go_ret;exact bh.uX r.out δ δ δ rfl (bA.fo z F.out h7.drew) f.err rfl
 have r:=η (P.trans (a8 FC));unfold IS.emit at r;have ah:D<=M.l.length:=ω;have UU:Hid (Oq M.l D t.len=again t.all D t.len):=Lx f.tail ω ah
 have O:Hid (∀W,yP W b0 M.gw M.Aw M.nw M.cw M.l->Calls Tryz.prog 209 #[.pointer (some ⟨M.gw,0,none⟩), .int .i64 S.len, .int .i64 D] W (Hl W b0 M.gw M.Aw M.l D S.len)):=λW hW=>
  Z9 W b0 M.gw M.nw M.cw M.Aw M.l hW S.len D ⟨ω,ω⟩ ⟨ω,ω⟩
 clear FC P FN I ah
 go_wp2_with fail;refine U.mono ?_;rintro e w6 ⟨rfl,rfl⟩
 go_wp2_with fail;refine Hm.mono ?_;rintro e w7 ⟨rfl,h7⟩;have k1:=h7.cell.az 1;have al:=h7.cell.az 15
 go_wp2_with fail
 go_region_law
  ((go_simp;go_at_call 209;(refine(O _ (by first | exact h7.GI | exact h7.drew.GI)).mono ?_))
   rintro e w8 ⟨g9,A9,n9,c9,rfl,X,am,bp,QN,bd⟩)
 all_goals
  have h8:=bA.C6 (M:={ M with a:=M.a+n+LE }) h7.drew QN am (λk J=>by
   rcases J with J | J
   · exact .inl (.inl J)
   exact(bd k J).imp (λe=> .inr e) id)
  have z5:=h8.cell.aH 5;have k5:=h8.cell.az 5;have h9:=h8.put (i:=5) ω (.int .i64 6) { S with st:=6 } (fc rfl rfl rfl rfl rfl rfl rfl rfl rfl rfl rfl rfl rfl rfl rfl rfl);have aE:ai (some (⟨g9,0,none⟩ :Addr))≠some g:=λe=>by have:=(X.2.lt e).1;have:=h7.cell.lt;simp at*;omega
  have an:=X.far (p:= ⟨g,5,none⟩) aE (.int .i64 6);have C:=wW h9 _ _ S.len _ _ an.rd (af _) (af _) ω mg (by show((S.most:Nat):Int)<=_;rw[q.out];exact jL);unfold mO at C;have bi:Hid ((Oq M.l D S.len).length=S.len):=zJ _ _ _;rw[bi.out]at C;by_cases hz:t.rem<t.len
  · rw[aa (show S.most<S.len by rw[q.out,HLEN.out];exact hz)]at C;have L3:=η C;have HZ:=η hz;clear C hz
    go_wp2_with fail;refine L3.mono ?_;rintro e Sr ⟨A8,n8,c8,rfl,N⟩
    go_wp2_with fail;go_ret;have G:t.step=({ t with x:=(t.x.drop n).drop LE,st:=6,aj:=t.aj++[bY.mk 0 t.len D],all:=t.all++(again t.all D t.len).take t.rem,rem:=t.rem-(again t.all D t.len).length },6):=r.trans (by rw[aa (by rw[cG];exact HZ)]);refine bh.bad (b:=(again t.all D t.len).take t.rem) G δ δ δ rfl (by rw[aD,cG];have:=HLEN.out;omega) (bA.fo z F.out N) f.err ?_;show M.out++(Oq M.l D S.len).take S.most=_;rw[q.out,HLEN.out,UU.out]
  rw[a8 (show¬S.most<S.len by rw[q.out,HLEN.out];exact hz)]at C;have L3:=η C;have HZ:=η hz;have bo:Hid ((again t.all D t.len).take t.rem=again t.all D t.len):=aA (by rw[cG];omega);clear C hz
  go_wp2_with fail;refine L3.mono ?_;rintro e Sr ⟨A8,n8,c8,rfl,N⟩
  go_wp2_with fail;go_ret;have G:t.step=({ t with x:=(t.x.drop n).drop LE,st:=6,aj:=t.aj++[bY.mk 0 t.len D],all:=t.all++(again t.all D t.len).take t.rem,rem:=t.rem-(again t.all D t.len).length },0):=r.trans (by rw[a8 (by rw[cG];exact HZ)]);refine bh.go (b:=(again t.all D t.len).take t.rem) G rfl (by rw[aD,cG];have:=HLEN.out;omega) (bA.fo z F.out N) ⟨VF.out,rfl,f.last,f.left,f.c0,f.c1,f.c2,f.lens,λe=>by simp at e,λ_=>f.lt (.inr A.out),λ_=>f.ds (.inr A.out),λe=>by simp at e, ?_, ?_,f.err⟩ ?_
  · show uU (t.all++(again t.all D t.len).take t.rem) (zz M.l (Oq M.l D S.len));rw[bo.out,HLEN.out,UU.out];exact f.tail.add _
  · show S.most-S.len=t.rem-(again t.all D t.len).length;rw[q.out,HLEN.out,cG]
  show M.out++(Oq M.l D S.len).take S.most=_;rw[q.out,HLEN.out,UU.out]
end
section
variable {w w' w0 w2:World} {b0 g:Nat} {c c0:Nat->Nat} {M M':DM} {S S':DS} {s t t':IS} {b:ag} {v:Int}
theorem Qs (h:s.st=8):s.step=(s,8):=by unfold IS.step;rw[a8 ω,a8 ω,a8 ω,a8 ω,a8 ω,a8 ω,a8 ω,a8 ω]
theorem Qv (h:bA w0 c0 w b0 g M S) (c:Live M S s) (hO:s.Ok) (want:Int) (m:1<=want) (f:want<=4611686018427387904) (j:M.out.length<=10000000000) (i:(s.rem:Int)<=4611686018427387904):
  Calls Tryz.prog 190 #[.pointer (some ⟨g,0,none⟩), .int .i64 want] w (bh w0 c0 b0 g M s):=by
 obtain⟨-, -, -, -, -,l, -⟩ :=h.cells;have n:=hO.st8;rw[c.st]at l;have k:s.st=0\/s.st=1\/s.st=2\/s.st=3\/s.st=4\/s.st=5\/s.st=6\/s.st=7\/s.st=8:=ω;clear n;rcases k with a | a | a | a | a | a | a | a | a
 all_goals
  rw[a]at l
 · have b:=η (LG h c hO a);clear a
   go_in
   go_wp2_with fail;refine b.mono ?_;rintro e w1 hp;obtain⟨_,_,_,v,_,rfl,_⟩ :=id hp
   go_wp2_with fail;go_ret;exact hp
 · have b:=η (Qu h c hO a);clear a
   go_in
   go_wp2_with fail;refine b.mono ?_;rintro e w1 hp;obtain⟨_,_,_,v,_,rfl,_⟩ :=id hp
   go_wp2_with fail;go_ret;exact hp
 · have b:=η (Ir h c hO a want m f j i);clear a
   go_in
   go_wp2_with fail;refine b.mono ?_;rintro e w1 hp;obtain⟨_,_,_,v,_,rfl,_⟩ :=id hp
   go_wp2_with fail;go_ret;exact hp
 · have b:=η (LM h c hO a);clear a
   go_in
   go_wp2_with fail;refine b.mono ?_;rintro e w1 hp;obtain⟨_,_,_,v,_,rfl,_⟩ :=id hp
   go_wp2_with fail;go_ret;exact hp
 · have b:=η (LI h c hO a);clear a
   go_in
   go_wp2_with fail;refine b.mono ?_;rintro e w1 hp;obtain⟨_,_,_,v,_,rfl,_⟩ :=id hp
   go_wp2_with fail;go_ret;exact hp
 · have b:=η (Fc h c hO a);clear a
   go_in
   go_wp2_with fail;refine b.mono ?_;rintro e w1 hp;obtain⟨_,_,_,v,_,rfl,_⟩ :=id hp
   go_wp2_with fail;go_ret;exact hp
 · have b:=η (LN h c hO a j i);clear a
   go_in
   go_wp2_with fail;refine b.mono ?_;rintro e w1 hp;obtain⟨_,_,_,v,_,rfl,_⟩ :=id hp
   go_wp2_with fail;go_ret;exact hp
 · have b:=η (CB h c hO a j i);clear a
   go_in
   go_wp2_with fail;refine b.mono ?_;rintro e w1 hp;obtain⟨_,_,_,v,_,rfl,_⟩ :=id hp
   go_wp2_with fail;go_ret;exact hp
 have d:=η (Qs a);clear a
 go_in
 go_wp2_with fail;go_ret;exact⟨M,S,s,8,[],rfl,h,c.err,σ,σ,σ, .inr (.inr ⟨δ,δ,by rw[IS.gZ (by rw[d.out];simp),d.out],λ_=>c⟩)⟩
end
end Go.Proofs.YtgiimmkmjpbecaaGreat
