/-
  part
-/
import Derived.Test.YtdhmnlpfhfmpfaaGreatArr
import Derived.Test.YtdhmnlpfhfmpfaaGreatPk26
namespace Go.Proofs.YtdhmnlpfhfmpfaaGreat
open Go.RowKit
set_option linter.unusedVariables false
set_option maxRecDepth 100000
set_option maxHeartbeats 8000000
section
variable {w w' w0 w2:World} {b0 g:Nat} {c0:Nat->Nat} {M M':DM} {S S':DS} {s t:IS} {b:aj} {v:Int}
theorem bF.push (h:bF w0 c0 w b0 g M S) (v:Int) {A2:ay} {d c2:Nat} (l:(w.alloc (.cells #[.int .i64 v] 3)).grownBy w2 (ak M.Al)) (n:ba .i64 w2 b0 3 A2 d c2 (M.lens++[v])) (b:ak A2=ak M.Al\/ak A2=some (w.alloc (.cells #[.int .i64 v] 3)).heap.size):
  bF w0 c0 (w2.setCell ⟨g,11,none⟩ (.slice A2 d c2)) b0 g { M with Al:=A2,nl:=d,cl:=c2,lens:=M.lens++[v] } S:=by
 have c:=h.apart.2.1;have r:=h.cell.lt;have o:=(h.cell.alloc (.cells #[.int .i64 v] 3)).grown l (λe=>c e.symm)
 have f:ak A2≠some g:=by
  rcases b with e | e
  · rw[e];exact c
  rw[e];intro j;injection j with j;simp at j;omega
 refine h.FD ((((bk.refl w _).alloc _).grown l (λq m=> .inl (.inr m))).setCell (p:= ⟨g,11,none⟩) (.inl (.inl rfl)) _) ((o.bK (i:=11) ω _).congr (fg rfl rfl rfl rfl rfl rfl rfl rfl rfl rfl rfl rfl rfl rfl rfl rfl)) (n.far (p:= ⟨g,11,none⟩) f _) (λk a=> ?_);rcases b with e | e
 · exact .inl (e▸a)
 rw[e]at a;injection a with a;simp at a;exact .inr ω
def a58 (w0:World) (c0:Nat->Nat) (b0 g:Nat) (M:DM) (S:DS) (s:IS) (k:Nat) (wr:World):Prop:=
 ∃M' t,bF w0 c0 wr b0 g M' S/\IS.Steps s t/\Live M' S t/\t.Ok/\t.st=4/\M'.out=M.out/\t.all=s.all/\Hid (k=t.c2-t.lens.length)/\Hid (t.mu<=s.mu)
def a1f (b:World) (l:aj) (a:Nat) (A:ay) (nl:Nat) (k:Nat) (n i:Value) (wr:World):Prop:=
 ∃j,j<=l.length/\Hid (k=l.length-j)/\i= .int .i64 j/\n= .bool (gU (l.take j))/\Below a b wr/\Ar wr a 19 (hF l j)/\Ar wr (a+1) 19 (λp=> .int .i64 (lD.getD p 0:Nat))/\bT .i64 wr a A nl l
theorem bh.after {k:DM} {e:Ending} (j:IS.Steps s t) (p:t.mu<=s.mu) (a:t.all=s.all) (l:k.out=M.out) (h:bh w0 c0 b0 g k t e w'):bh w0 c0 b0 g M s e w':=by
 obtain⟨M',S',s',v,b,o,n,m,h4,h5,h6,h7⟩ :=h;refine⟨M',S',s',v,b,o,n,m,by rw[h4,l],by rw[h5,a],h6, ?_⟩;rcases h7 with ⟨f,d,i,c⟩ | ⟨f,d,i,c⟩ | ⟨f,d,i,c⟩
 · exact .inl ⟨f,j.trans d,ω,c⟩
 · exact .inr (.inl ⟨f,j.trans d,i,c⟩)
 exact .inr (.inr ⟨f,d,by rw[<-j.mG];exact i,c⟩)
def Jd (w:World):World:=((w.alloc (.cells (eH 19 (.int .i64 0)) 3)).alloc (.cells #[.int .i64 16, .int .i64 17, .int .i64 18, .int .i64 0, .int .i64 8, .int .i64 7, .int .i64 9, .int .i64 6, .int .i64 10, .int .i64 5, .int .i64 11, .int .i64 4, .int .i64 12, .int .i64 3, .int .i64 13, .int .i64 2, .int .i64 14, .int .i64 1, .int .i64 15] 167)).drew
theorem Mu (w:World) (l:aj):Below w.heap.size w (Jd w)/\Ar (Jd w) w.heap.size 19 (hF l 0)/\Ar (Jd w) (w.heap.size+1) 19 (λp=> .int .i64 (lD.getD p 0:Nat)):=by
 refine⟨(((ax _ w).alloc (ai _) _).alloc σ _).drew,(((Ar.zeros w 19 (.int .i64 0) 3).alloc _).drew).congr λp _=>NN l p, ?_⟩
 have:=Ar.new (m:=19) (f:=λp=> .int .i64 (lD.getD p 0:Nat)) (w.alloc (.cells (eH 19 (.int .i64 0)) 3)) #[.int .i64 16, .int .i64 17, .int .i64 18, .int .i64 0, .int .i64 8, .int .i64 7, .int .i64 9, .int .i64 6, .int .i64 10, .int .i64 5, .int .i64 11, .int .i64 4, .int .i64 12, .int .i64 3, .int .i64 13, .int .i64 2, .int .i64 14, .int .i64 1, .int .i64 15] 167 rfl (λi hi=>by
  obtain rfl | rfl | rfl | rfl | rfl | rfl | rfl | rfl | rfl | rfl | rfl | rfl | rfl | rfl | rfl | rfl | rfl | rfl | rfl:i=0\/i=1\/i=2\/i=3\/i=4\/i=5\/i=6\/i=7\/i=8\/i=9\/i=10\/i=11\/i=12\/i=13\/i=14\/i=15\/i=16\/i=17\/i=18:=ω;all_goals rfl)
 rw[show(w.alloc (.cells (eH 19 (.int .i64 0)) 3)).heap.size=w.heap.size+1 by simp]at this;exact this.drew
theorem KD:(Tryz.prog.info? 167).map (λi=>(i.zero,i.size))=some (some (.agg (Array.replicate 19 (.int .i64 0))),19):=by kernel_rfl
theorem KX (h:bF w0 c0 w b0 g M S) (b:Live M S s) (hO:s.Ok) (c:s.st=4):
  Calls Tryz.prog 126 #[.pointer (some ⟨g,0,none⟩)] w (bh w0 c0 b0 g M s):=by
 obtain⟨i0,hi,ab,Z,Y⟩ :=aL mQ
 obtain⟨it,hit,al,a3D⟩ :∃it,Tryz.prog.info? 167 =some it/\it.zero=some (.agg (Array.replicate 19 (.int .i64 0)))/\it.size=19:=by
  have h:=KD;cases u:Tryz.prog.info? 167 with
  | none=>rw[u]at h;simp at h
  | some it=>rw[u]at h;simp at h;exact⟨it,rfl,h.1,h.2⟩
 have HT:=η (And.intro hit (And.intro al a3D));clear hit al a3D;have Hi:=η hi;have i7:=η ab;have gp:=η Z;have i9:=η Y;clear hi ab Z Y;go_enter Tryz.func126,Tryz.ntmps126;go_wp2;go_loopg [] (s.c2-s.lens.length) (a58 w0 c0 b0 g M S s)
 case atStart=>exact⟨M,s,h, .refl s,b,hO,c,rfl,rfl,rfl,ai _⟩
 clear h b hO c;obtain⟨d,t,h,hs,b,hO,c,ho,f,C,B8⟩ :=hrel;obtain⟨cb,ca,bI⟩ :=hO.h4 c;obtain⟨-, -, -, -, -, -, -, -, -, -,IV,VW, -⟩ :=h.cells;have fz:=h.lens.1;rw[b.lens]at fz;have J:=b.x;have F8:(0:Int)<=d.nl/\(d.nl:Int)<=19/\(0:Int)<=S.c2/\(S.c2:Int)<=19:=by have:=b.c2;omega
 have yf:=η b.c2;have uo:=η fz;have HB:=η J;by_cases ah:(d.nl:Int)<(S.c2:Int)
 · have O:Hid (t.lens.length<t.c2):=by show _<_;have:=yf.out;have:=uo.out;omega
   by_cases L:t.x.length<3
   · have B3:=η (AW c O.out L);have I:((rb d.B d.a).length:Int)<3:=by rw[J];omega
     clear J L fz C
     go_wp2_with fail;go_region
     all_goals
      go_wp2_with fail;refine(ov h.drew 3 (.inr (.inr I))).mono ?_;rintro e w1 ⟨rfl,m⟩
      go_wp2_with fail;go_ret;exact⟨d,S,t,5,[],rfl,m,b.err,by rw[ho,aA],by rw[f,aA],σ, .inr (.inl ⟨rfl,hs,B3.out,b⟩)⟩
   have Bb:=AX c O.out L;have I:3<=(rb d.B d.a).length:=by rw[J];omega
   obtain⟨v,hv⟩ :=ν (((num t.x 3:Nat):Int):Int)
   have nJ:Hid (∀w2:World,bF w0 c0 w2 b0 g d S->Calls Tryz.prog 141 #[.pointer (some ⟨g,0,none⟩), .int .i64 3] w2 λe w'=>e= .returned (.tuple #[.int .i64 v, .bool true])/\bF w0 c0 w' b0 g { d with a:=d.a+3 } S):=λw2 h2=>by
    have:=vN h2 3 ω I
    rwa [J,hv]at this
   have sK:Hid (rb d.B (d.a+3)=t.x.drop 3):=by show _=_;rw[<-kU,J]
   have bs:0<=v:=ω;rw[hv]at Bb;have HP:=η Bb;have vX:Hid (t.step.1.mu<t.mu):=IS.jK (by rw[Bb]);clear J L fz I hv Bb
   go_wp2_with fail;go_region
   all_goals
    go_wp2_with fail;refine(nJ.out _ h.drew).mono ?_;rintro e w1 ⟨rfl,m⟩;obtain⟨-, -, -, -, -, -, -, -, -, -, -,bp, -⟩ :=m.cells;have jb:=m.lens.alloc (.cells #[.int .i64 v] 3);have bB:=m.lo
    go_wp2_with (at_builtin;(refine bq .i64 b0 3 i0 8 rfl (.tmp 34) (.tmp 36) _ rfl Tryz.underlying63 Hi.out i7.out gp.out i9.out rfl jb rfl (bT.lit .i64 w1 [v] 3) (by show d.nl+1<=_;omega) ω ξ ?_)
                 intro A4 d4 w4 bL am dT;have iL:=(m.cell.alloc (.cells #[.int .i64 v] 3)).grown am (λe=>m.apart.2.1 e.symm);have K:=iL.cell (i:=11) ω;have ap:=iL.frozen' (i:=11) ω)
    have h5:=m.push v am bL dT;go_roundg (gk-1)
    case measure=>have m:=C.out;have h2:=O.out;omega
    have Fu:=IS.Steps.tail hs (by rw[HP.out]);have ao:=hO.step (.inl (by rw[HP.out]));have ae:=vX.out;rw[HP.out]at Fu ao ae;exact⟨_,_,h5,Fu, ⟨sK.out,b.st,b.last,b.left,b.c0,b.c1,b.c2,by show d.lens++[v]=t.lens++[v];rw[b.lens],λe=>by simp [c]at e,λe=>by simp [c]at e,λe=>by simp [c]at e,λe=>by simp [c]at e,b.tail,b.rem,b.err⟩,ao,c,ho,f,by show gk-1=t.c2-(t.lens++[v]).length;rw[ag];have:=C.out;simp;omega,aw (dh ae) B8.out⟩
 rename World=>wb
 have O:¬t.lens.length<t.c2:=by have:=yf.out;have:=uo.out;omega
 have R:Hid (bg (iK t.lens) 7≠0\/gU t.lens=true->t.step=(t,3)):=λm=>Dr c O m;have an:Hid (¬(bg (iK t.lens) 7≠0\/gU t.lens=true)->t.step=({ t with hd:=iK t.lens,lens:=[],st:=5 },0)):=λm=>IC c O m;clear J C O fz;have oZ:∀W,(Instr.makeSlice 63 (.int .i64 19) (.int .i64 19)).run Tryz.prog W= .ok (.slice (some ⟨W.heap.size,0,none⟩) 19 19) (W.alloc (.cells (eH 19 (.int .i64 0)) 3)):=λW=>fV (P:=Tryz.prog) 63 3 i0 (.int .i64 0) Tryz.underlying63 Hi.out i7.out gp.out rfl .i64 .i64 19 (by rw[i9.out];omega) ω W;have yB:¬(d.nl:Int)<(S.c2:Int):=ah;have be:(d.nl<S.c2)=False:=ξ;have r:=η (Mu wb d.lens);have hW:bF w0 c0 (Jd wb) b0 g d S:=h.keeps r.out.1;obtain⟨-, -, -, -, -, -, -, -, -, -, -,K, -⟩ :=hW.cells;unfold Jd at K;have P3:=η h.lens;have Y6:=h.cell.lt;have n:bT .i64 (Jd wb) wb.heap.size d.Al d.nl d.lens:=h.lens.rd.below r.out.1;clear ah
 go_wp2_with fail;go_region
 all_goals
  go_upto_region 8 with fail
  refine wp_region_list ?_;refine MZ 167 3 19 _ [16,17,18,0,8,7,9,6,10,5,11,4,12,3,13,2,14,1,15] 41 7 rfl rfl rfl rfl rfl rfl rfl rfl rfl Tryz.underlying167 (by kernel_rfl) it HT.out.1 _ HT.out.2.1 rfl HT.out.2.2 rfl rfl rfl ?_
  go_wp2_with fail
  change Code.wp _ _ _ _ (Jd wb)
  clear K oZ yB be;obtain⟨k,Q⟩ :=ν (wb.heap.size);obtain⟨Al,S8⟩ :=ν (d.Al);obtain⟨nl,A⟩ :=ν (d.nl);obtain⟨l,I⟩ :=ν (d.lens);rw[Q]at r n⊢;rw[S8,A]at n⊢;rw[I]at n r;rw[A]at F8;have bl:=η Q;have ce:=η S8;have cc:=η A;have Ew:=η I;clear Q S8 A I;generalize Jd wb=wo at r hW n⊢;have z:=η n.1;have bi:=η h;clear h hW;go_loopg [6,47] l.length (a1f wb l k Al nl)
  case atStart=>exact⟨0,aF _,rfl,rfl,rfl,r.out.1,r.out.2.1,r.out.2.2,n⟩
  clear n r;obtain⟨j,hj,C,rfl,rfl,uC,T,U,n⟩ :=hrel;by_cases uG:j<nl
  · have Y9:(0:Int)<=j/\(j:Int)<(nl:Int)/\(j:Int)<19:=ω;obtain⟨ad,rfl,bx,c1⟩ :=n.at_ uG;have c2:=U.cell (i:=j) ω;have hp:=NR j ω;have jA:=η (λq (u:q<19)=>NM (l:=l) (i:=j) ω u);obtain⟨p,zb⟩ :=ν (lD.getD j 0);rw[zb]at c2 hp jA;have z3:=T.frozen' hp;have c3:=T.cell hp;have y:=η (Ml (l:=l) (i:=j) (by rw[<-z.out];exact uG));obtain⟨x,L⟩ :=ν (ix l j);rw[L]at c1 jA y;have bt:(0:Int)<=p/\(p:Int)<19:=ω
    have Bc:Hid (∀nb,nb=gU (l.take (j+1))->a1f wb l k (some ad) nl (gk-1) (.bool nb) (.int .i64 ((j:Int)+1)) (wr.setCell ⟨k,p,none⟩ (.int .i64 x))):=λnb N=>
     ⟨j+1,by rw[<-z.out];omega,by show gk-1=_;have:=C.out;omega,by go_num,by rw[N],uC.setCell (p:= ⟨k,p,none⟩) (ai _) _,(T.bK hp _).congr λq u=>jA.out q u,U.far (p:= ⟨k,p,none⟩) (by show k+1≠k;omega) _,n.keep λq u=>dL (cV _ _ _ _ ξ)⟩
    clear zb L;cases N:gU (l.take j)
    · rw[N]at y;have XR:Hid (false=gU (l.take (j+1))):=by show _=_;rw[y.out];rfl
      clear y N
      go_wp2_with fail;go_roundg (gk-1)
      case measure=>have:=C.out;have:=z.out;omega
      case rel=>exact Bc.out _ XR.out
    rw[N]at y;by_cases o:x=0
    · have XR:Hid (true=gU (l.take (j+1))):=by show _=_;rw[y.out,o];rfl
      clear y N;subst o
      go_wp2_with fail;go_roundg (gk-1)
      case measure=>have:=C.out;have:=z.out;omega
      case rel=>exact Bc.out _ XR.out
    have aE:(x==0)=false:=by simpa using o
    have XR:Hid (false=gU (l.take (j+1))):=by show _=_;rw[y.out,aE];rfl
    clear y N o
    go_wp2_with fail;go_roundg (gk-1)
    case measure=>have:=C.out;have:=z.out;omega
    case rel=>exact Bc.out _ XR.out
  obtain rfl:j=nl:=by have:=z.out;omega
  rw[z.out,List.take_length];rw[z.out]at T;have ac:bT .i64 wr (k+1) (some ⟨k,0,none⟩) 19 (iK l):= ⟨(ng l).symm,(T.rd (B:=k+1) ω (ai 19)).congr λq u=>Ur u⟩;have oX:=T.lt;have oG:l=t.lens:=by rw[<-Ew.out,b.lens]
  rw[<-oG]at R an;have G:=bi.out.keeps (w':=wr) (by rw[bl.out];exact uC);have cd:=η oG;have bv:¬(j:Int)<(j:Int):=ω;clear T U n uC z oG uo yf;by_cases D:bg (iK l) 7=0
  rotate_left
  · have V:=Ho wr (some ⟨k,0,none⟩) 19 19 (k+1) (iK l) 7 ac ω D;have XP:=η D;obtain⟨E,hE⟩ :=ν (bg (iK l) 7);rw[hE]at V D;have nS:(E==0)=false:=by simpa using D
    have H:=η V;have Gx:(E != 0)=true:=by simpa using D
    generalize gU l=nb;clear D V hE;cases nb
    all_goals
     go_wp2_with fail;refine H.out.mono ?_;rintro e w3 ⟨rfl,rfl⟩
     go_wp2_with fail;go_ret;exact bh.after hs B8.out f ho (bh.vD (R.out (.inl XP.out)) δ δ δ rfl G b.err rfl)
  have V:=oo wr (some ⟨k,0,none⟩) 19 19 (k+1) (iK l) 7 ac oX ω D;have XP:=η D;have H:=η V;clear D V;cases Cn:gU l
  · have rF:=η Cn;clear Cn
    go_wp2_with fail;refine H.out.mono ?_;rintro e w3 ⟨g3,rfl,QH,F⟩;have h3:=(G.a0O F QH (by rw[ng];omega)).1;have X:=G.keeps F;have bo:=X.cell.frozen' (i:=12) ω;have ap:=X.cell.frozen' (i:=11) ω;have z5:=X.cell.frozen' (i:=5) ω;obtain⟨-, -, -, -, -,k5, -, -, -, -, -,VW,LY, -⟩ :=X.cells;have h4:=h3.Wi.put (i:=5) ω (.int .i64 5) { S with st:=5 } (fg rfl rfl rfl rfl rfl rfl rfl rfl rfl rfl rfl rfl rfl rfl rfl rfl)
    go_wp2_with fail;go_ret;refine bh.after hs B8.out f ho (bh.Uc (an.out (by rw[XP.out,rF.out];simp)) rfl h4 ⟨HB.out,rfl,b.last,b.left,b.c0,b.c1,b.c2,rfl,λ_=>rfl,λe=>by simp at e,λe=>by simp at e,λe=>by simp at e,b.tail,b.rem,b.err⟩ rfl)
  have rF:=η Cn;clear Cn
  go_wp2_with fail;refine H.out.mono ?_;rintro e w3 ⟨g3,rfl,QH,F⟩;have X:=G.keeps F
  go_wp2_with fail;go_ret;exact bh.after hs B8.out f ho (bh.vD (R.out (.inr rF.out)) δ δ δ rfl X b.err rfl)
end
end Go.Proofs.YtdhmnlpfhfmpfaaGreat
