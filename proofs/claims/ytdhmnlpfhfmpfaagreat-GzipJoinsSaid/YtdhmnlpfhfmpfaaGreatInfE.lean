/-
  part
-/
import Derived.Test.YtdhmnlpfhfmpfaaGreatArr
import Derived.Test.YtdhmnlpfhfmpfaaGreatPk26
namespace Go.Proofs.YtdhmnlpfhfmpfaaGreat
open Go.RowKit
set_option linter.unusedVariables false
set_option maxRecDepth 100000
set_option maxHeartbeats 8000000
section
variable {w w' w0 w2:World} {b0 g:Nat} {c0:Nat->Nat} {M M':DM} {S S':DS} {s t:IS} {b:List Int} {v:Int}
theorem bz.push (h:bz w0 c0 w b0 g M S) (v:Int) {A2:Option Addr} {d c2:Nat} (l:(w.alloc (.cells #[.int .i64 v] 3)).grownBy w2 (ai M.Al)) (n:aW .i64 w2 b0 3 A2 d c2 (M.lens++[v])) (b:ai A2=ai M.Al\/ai A2=some (w.alloc (.cells #[.int .i64 v] 3)).heap.size):
  bz w0 c0 (w2.setCell ⟨g,11,none⟩ (.slice A2 d c2)) b0 g { M with Al:=A2,nl:=d,cl:=c2,lens:=M.lens++[v] } S:=by
 have c:=h.apart.2.1;have r:=h.cell.lt;have o:=(h.cell.alloc (.cells #[.int .i64 v] 3)).grown l (λe=>c e.symm)
 have f:ai A2≠some g:=by
  rcases b with e | e
  · rw[e];exact c
  rw[e];intro j;injection j with j;simp at j;omega
 refine h.Fx ((((bj.refl w _).alloc _).grown l (λq m=> .inl (.inr m))).setCell (p:= ⟨g,11,none⟩) (.inl (.inl rfl)) _) ((o.bC (i:=11) ω _).congr (fj rfl rfl rfl rfl rfl rfl rfl rfl rfl rfl rfl rfl rfl rfl rfl rfl)) (n.far (p:= ⟨g,11,none⟩) f _) (λk a=> ?_);rcases b with e | e
 · exact .inl (e▸a)
 rw[e]at a;injection a with a;simp at a;exact .inr ω
def a4z (w0:World) (c0:Nat->Nat) (b0 g:Nat) (M:DM) (S:DS) (s:IS) (k:Nat) (wr:World):Prop:=
 ∃M' t,bz w0 c0 wr b0 g M' S/\IS.Steps s t/\Live M' S t/\t.Ok/\t.st=4/\M'.out=M.out/\t.all=s.all/\Hid (k=t.c2-t.lens.length)/\Hid (t.mu<=s.mu)
def a0L (b:World) (l:List Int) (a:Nat) (A:Option Addr) (nl:Nat) (k:Nat) (n i:Value) (wr:World):Prop:=
 ∃j,j<=l.length/\Hid (k=l.length-j)/\i= .int .i64 j/\n= .bool (gQ (l.take j))/\Below a b wr/\Ar wr a 19 (hF l j)/\Ar wr (a+1) 19 (λp=> .int .i64 (ll.getD p 0:Nat))/\bU .i64 wr a A nl l
theorem bf.after {k:DM} {e:Ending} (j:IS.Steps s t) (p:t.mu<=s.mu) (a:t.all=s.all) (l:k.out=M.out) (h:bf w0 c0 b0 g k t e w'):bf w0 c0 b0 g M s e w':=by
 obtain⟨M',S',s',v,b,o,n,m,h4,h5,h6,h7⟩ :=h;refine⟨M',S',s',v,b,o,n,m,by rw[h4,l],by rw[h5,a],h6, ?_⟩;rcases h7 with ⟨f,d,i,c⟩ | ⟨f,d,i,c⟩ | ⟨f,d,i,c⟩
 · exact .inl ⟨f,j.trans d,ω,c⟩
 · exact .inr (.inl ⟨f,j.trans d,i,c⟩)
 exact .inr (.inr ⟨f,d,by rw[<-j.mr];exact i,c⟩)
def IX (w:World):World:=((w.alloc (.cells (eD 19 (.int .i64 0)) 3)).alloc (.cells #[.int .i64 16, .int .i64 17, .int .i64 18, .int .i64 0, .int .i64 8, .int .i64 7, .int .i64 9, .int .i64 6, .int .i64 10, .int .i64 5, .int .i64 11, .int .i64 4, .int .i64 12, .int .i64 3, .int .i64 13, .int .i64 2, .int .i64 14, .int .i64 1, .int .i64 15] 167)).drew
theorem Md (w:World) (l:List Int):Below w.heap.size w (IX w)/\Ar (IX w) w.heap.size 19 (hF l 0)/\Ar (IX w) (w.heap.size+1) 19 (λp=> .int .i64 (ll.getD p 0:Nat)):=by
 refine⟨(((aw _ w).alloc (ag _) _).alloc σ _).drew,(((Ar.zeros w 19 (.int .i64 0) 3).alloc _).drew).congr λp _=>Nt l p, ?_⟩
 have:=Ar.new (m:=19) (f:=λp=> .int .i64 (ll.getD p 0:Nat)) (w.alloc (.cells (eD 19 (.int .i64 0)) 3)) #[.int .i64 16, .int .i64 17, .int .i64 18, .int .i64 0, .int .i64 8, .int .i64 7, .int .i64 9, .int .i64 6, .int .i64 10, .int .i64 5, .int .i64 11, .int .i64 4, .int .i64 12, .int .i64 3, .int .i64 13, .int .i64 2, .int .i64 14, .int .i64 1, .int .i64 15] 167 rfl (λi hi=>by
  obtain rfl | rfl | rfl | rfl | rfl | rfl | rfl | rfl | rfl | rfl | rfl | rfl | rfl | rfl | rfl | rfl | rfl | rfl | rfl:i=0\/i=1\/i=2\/i=3\/i=4\/i=5\/i=6\/i=7\/i=8\/i=9\/i=10\/i=11\/i=12\/i=13\/i=14\/i=15\/i=16\/i=17\/i=18:=ω;all_goals rfl)
 rw[show(w.alloc (.cells (eD 19 (.int .i64 0)) 3)).heap.size=w.heap.size+1 by simp]at this;exact this.drew
theorem Kq:(Tryz.prog.info? 167).map (λi=>(i.zero,i.size))=some (some (.agg (Array.replicate 19 (.int .i64 0))),19):=by kernel_rfl
theorem KL (h:bz w0 c0 w b0 g M S) (b:Live M S s) (hO:s.Ok) (c:s.st=4):
  Calls Tryz.prog 126 #[.pointer (some ⟨g,0,none⟩)] w (bf w0 c0 b0 g M s):=by
 obtain⟨i0,hi,Z,Y,X⟩ :=aJ mI
 obtain⟨it,hit,al,a34⟩ :∃it,Tryz.prog.info? 167 =some it/\it.zero=some (.agg (Array.replicate 19 (.int .i64 0)))/\it.size=19:=by
  have h:=Kq;cases u:Tryz.prog.info? 167 with
  | none=>rw[u]at h;simp at h
  | some it=>rw[u]at h;simp at h;exact⟨it,rfl,h.1,h.2⟩
 have HT:=η (And.intro hit (And.intro al a34));clear hit al a34;have Hi:=η hi;have gV:=η Z;have fY:=η Y;have gW:=η X;clear hi Z Y X;go_enter Tryz.func126,Tryz.ntmps126;go_wp2;go_loopg [] (s.c2-s.lens.length) (a4z w0 c0 b0 g M S s)
 case atStart=>exact⟨M,s,h, .refl s,b,hO,c,rfl,rfl,rfl,ag _⟩
 clear h b hO c;obtain⟨d,t,h,hs,b,hO,c,ho,f,A,AP⟩ :=hrel;obtain⟨cb,ca,bX⟩ :=hO.h4 c;obtain⟨-, -, -, -, -, -, -, -, -, -,XC,RU, -⟩ :=h.cells;have fX:=h.lens.1;rw[b.lens]at fX;have I:=b.x;have JY:(0:Int)<=d.nl/\(d.nl:Int)<=19/\(0:Int)<=S.c2/\(S.c2:Int)<=19:=by have:=b.c2;omega
 have xK:=η b.c2;have tZ:=η fX;have HB:=η I;by_cases ah:(d.nl:Int)<(S.c2:Int)
 · have N:Hid (t.lens.length<t.c2):=by show _<_;have:=xK.out;have:=tZ.out;omega
   by_cases K:t.x.length<3
   · have AB:=η (Au c N.out K);have H:((rb d.B d.a).length:Int)<3:=by rw[I];omega
     clear I K fX A
     go_wp2_with fail;go_region
     all_goals
      go_wp2_with fail;refine(oc h.drew 3 (.inr (.inr H))).mono ?_;rintro e w1 ⟨rfl,m⟩
      go_wp2_with fail;go_ret;exact⟨d,S,t,5,[],rfl,m,b.err,by rw[ho,ax],by rw[f,ax],σ, .inr (.inl ⟨rfl,hs,AB.out,b⟩)⟩
   have AU:=Av c N.out K;have H:3<=(rb d.B d.a).length:=by rw[I];omega
   obtain⟨v,hv⟩ :=ν (((num t.x 3:Nat):Int):Int)
   have nj:Hid (∀w2:World,bz w0 c0 w2 b0 g d S->Calls Tryz.prog 141 #[.pointer (some ⟨g,0,none⟩), .int .i64 3] w2 λe w'=>e= .returned (.tuple #[.int .i64 v, .bool true])/\bz w0 c0 w' b0 g { d with a:=d.a+3 } S):=λw2 h2=>by
    have:=vB h2 3 ω H
    rwa [I,hv]at this
   have rq:Hid (rb d.B (d.a+3)=t.x.drop 3):=by show _=_;rw[<-kI,I]
   have bs:0<=v:=ω;rw[hv]at AU;have HP:=η AU;have vL:Hid (t.step.1.mu<t.mu):=IS.jG (by rw[AU]);clear I K fX H hv AU
   go_wp2_with fail;go_region
   all_goals
    go_wp2_with fail;refine(nj.out _ h.drew).mono ?_;rintro e w1 ⟨rfl,m⟩;obtain⟨-, -, -, -, -, -, -, -, -, -, -,bp, -⟩ :=m.cells;have iY:=m.lens.alloc (.cells #[.int .i64 v] 3);have bI:=m.lo
    go_wp2_with (at_builtin;(refine ba .i64 b0 3 i0 8 rfl (.tmp 34) (.tmp 36) _ rfl Tryz.underlying63 Hi.out gV.out fY.out gW.out rfl iY rfl (bU.lit .i64 w1 [v] 3) (by show d.nl+1<=_;omega) ω ξ ?_)
                 intro A4 d4 w4 bE am dP;have iE:=(m.cell.alloc (.cells #[.int .i64 v] 3)).grown am (λe=>m.apart.2.1 e.symm);have J:=iE.cell (i:=11) ω;have ap:=iE.frozen' (i:=11) ω)
    have h5:=m.push v am bE dP;go_roundg (gk-1)
    case measure=>have m:=A.out;have h2:=N.out;omega
    have Fl:=IS.Steps.tail hs (by rw[HP.out]);have ao:=hO.step (.inl (by rw[HP.out]));have ac:=vL.out;rw[HP.out]at Fl ao ac;exact⟨_,_,h5,Fl, ⟨rq.out,b.st,b.last,b.left,b.c0,b.c1,b.c2,by show d.lens++[v]=t.lens++[v];rw[b.lens],λe=>by simp [c]at e,λe=>by simp [c]at e,λe=>by simp [c]at e,λe=>by simp [c]at e,b.tail,b.rem,b.err⟩,ao,c,ho,f,by show gk-1=t.c2-(t.lens++[v]).length;rw[af];have:=A.out;simp;omega,au (cZ ac) AP.out⟩
 rename World=>wb
 have N:¬t.lens.length<t.c2:=by have:=xK.out;have:=tZ.out;omega
 have Q:Hid (bb (iD t.lens) 7≠0\/gQ t.lens=true->t.step=(t,3)):=λm=>Dn c N m;have an:Hid (¬(bb (iD t.lens) 7≠0\/gQ t.lens=true)->t.step=({ t with hd:=iD t.lens,lens:=[],st:=5 },0)):=λm=>Ii c N m;clear I A N fX;have oN:∀W,(Instr.makeSlice 63 (.int .i64 19) (.int .i64 19)).run Tryz.prog W= .ok (.slice (some ⟨W.heap.size,0,none⟩) 19 19) (W.alloc (.cells (eD 19 (.int .i64 0)) 3)):=λW=>fQ (P:=Tryz.prog) 63 3 i0 (.int .i64 0) Tryz.underlying63 Hi.out gV.out fY.out rfl .i64 .i64 19 (by rw[gW.out];omega) ω W;have Cf:¬(d.nl:Int)<(S.c2:Int):=ah;have be:(d.nl<S.c2)=False:=ξ;have r:=η (Md wb d.lens);have hW:bz w0 c0 (IX wb) b0 g d S:=h.keeps r.out.1;obtain⟨-, -, -, -, -, -, -, -, -, -, -,J, -⟩ :=hW.cells;unfold IX at J;have OC:=η h.lens;have Xt:=h.cell.lt;have n:bU .i64 (IX wb) wb.heap.size d.Al d.nl d.lens:=h.lens.rd.below r.out.1;clear ah
 go_wp2_with fail;go_region
 all_goals
  go_upto_region 8 with fail
  refine wp_region_list ?_;refine MF 167 3 19 _ [16,17,18,0,8,7,9,6,10,5,11,4,12,3,13,2,14,1,15] 41 7 rfl rfl rfl rfl rfl rfl rfl rfl rfl Tryz.underlying167 (by kernel_rfl) it HT.out.1 _ HT.out.2.1 rfl HT.out.2.2 rfl rfl rfl ?_
  go_wp2_with fail
  change Code.wp _ _ _ _ (IX wb)
  clear J oN Cf be;obtain⟨k,O⟩ :=ν (wb.heap.size);obtain⟨Al,Rs⟩ :=ν (d.Al);obtain⟨nl,ZC⟩ :=ν (d.nl);obtain⟨l,H⟩ :=ν (d.lens);rw[O]at r n⊢;rw[Rs,ZC]at n⊢;rw[H]at n r;rw[ZC]at JY;have bl:=η O;have ce:=η Rs;have cc:=η ZC;have Eu:=η H;clear O Rs ZC H;generalize IX wb=wo at r hW n⊢;have z:=η n.1;have bi:=η h;clear h hW;go_loopg [6,47] l.length (a0L wb l k Al nl)
  case atStart=>exact⟨0,aF _,rfl,rfl,rfl,r.out.1,r.out.2.1,r.out.2.2,n⟩
  clear n r;obtain⟨j,hj,A,rfl,rfl,Gq,R,T,n⟩ :=hrel;by_cases vI:j<nl
  · have bx:(0:Int)<=j/\(j:Int)<(nl:Int)/\(j:Int)<19:=ω;obtain⟨ad,rfl,bB,c1⟩ :=n.at_ vI;have c2:=T.cell (i:=j) ω;have hp:=Nw j ω;have iX:=η (λq (u:q<19)=>Ns (l:=l) (i:=j) ω u);obtain⟨p,yK⟩ :=ν (ll.getD j 0);rw[yK]at c2 hp iX;have z3:=R.frozen' hp;have c3:=R.cell hp;have y:=η (LY (l:=l) (i:=j) (by rw[<-z.out];exact vI));obtain⟨x,K⟩ :=ν (ix l j);rw[K]at c1 iX y;have bt:(0:Int)<=p/\(p:Int)<19:=ω
    have AV:Hid (∀nb,nb=gQ (l.take (j+1))->a0L wb l k (some ad) nl (gk-1) (.bool nb) (.int .i64 ((j:Int)+1)) (wr.setCell ⟨k,p,none⟩ (.int .i64 x))):=λnb L=>
     ⟨j+1,by rw[<-z.out];omega,by show gk-1=_;have:=A.out;omega,by go_num,by rw[L],Gq.setCell (p:= ⟨k,p,none⟩) (ag _) _,(R.bC hp _).congr λq u=>iX.out q u,T.far (p:= ⟨k,p,none⟩) (by show k+1≠k;omega) _,n.keep λq u=>fe (cR _ _ _ _ ξ)⟩
    clear yK K;cases L:gQ (l.take j)
    · rw[L]at y;have Xf:Hid (false=gQ (l.take (j+1))):=by show _=_;rw[y.out];rfl
      clear y L
      go_wp2_with fail;go_roundg (gk-1)
      case measure=>have:=A.out;have:=z.out;omega
      case rel=>exact AV.out _ Xf.out
    rw[L]at y;by_cases o:x=0
    · have Xf:Hid (true=gQ (l.take (j+1))):=by show _=_;rw[y.out,o];rfl
      clear y L;subst o
      go_wp2_with fail;go_roundg (gk-1)
      case measure=>have:=A.out;have:=z.out;omega
      case rel=>exact AV.out _ Xf.out
    have aE:(x==0)=false:=by simpa using o
    have Xf:Hid (false=gQ (l.take (j+1))):=by show _=_;rw[y.out,aE];rfl
    clear y L o
    go_wp2_with fail;go_roundg (gk-1)
    case measure=>have:=A.out;have:=z.out;omega
    case rel=>exact AV.out _ Xf.out
  obtain rfl:j=nl:=by have:=z.out;omega
  rw[z.out,List.take_length];rw[z.out]at R;have ab:bU .i64 wr (k+1) (some ⟨k,0,none⟩) 19 (iD l):= ⟨(mS l).symm,(R.rd (B:=k+1) ω (ag 19)).congr λq u=>TR u⟩;have oL:=R.lt;have oX:l=t.lens:=by rw[<-Eu.out,b.lens]
  rw[<-oX]at Q an;have F:=bi.out.keeps (w':=wr) (by rw[bl.out];exact Gq);have cd:=η oX;have bv:¬(j:Int)<(j:Int):=ω;clear R T n Gq z oX tZ xK;by_cases C:bb (iD l) 7=0
  rotate_left
  · have U:=Hc wr (some ⟨k,0,none⟩) 19 19 (k+1) (iD l) 7 ab ω C;have Xd:=η C;obtain⟨E,hE⟩ :=ν (bb (iD l) 7);rw[hE]at U C;have nK:(E==0)=false:=by simpa using C
    have G:=η U;have Cu:(E != 0)=true:=by simpa using C
    generalize gQ l=nb;clear C U hE;cases nb
    all_goals
     go_wp2_with fail;refine G.out.mono ?_;rintro e w3 ⟨rfl,rfl⟩
     go_wp2_with fail;go_ret;exact bf.after hs AP.out f ho (bf.vk (Q.out (.inl Xd.out)) δ δ δ rfl F b.err rfl)
  have U:=o0 wr (some ⟨k,0,none⟩) 19 19 (k+1) (iD l) 7 ab oL ω C;have Xd:=η C;have G:=η U;clear C U;cases Fg:gQ l
  · have Cm:=η Fg;clear Fg
    go_wp2_with fail;refine G.out.mono ?_;rintro e w3 ⟨g3,rfl,Qd,D⟩;have h3:=(F.a0l D Qd (by rw[mS];omega)).1;have V:=F.keeps D;have bo:=V.cell.frozen' (i:=12) ω;have ap:=V.cell.frozen' (i:=11) ω;have z5:=V.cell.frozen' (i:=5) ω;obtain⟨-, -, -, -, -,k5, -, -, -, -, -,RU,NU, -⟩ :=V.cells;have h4:=h3.VE.put (i:=5) ω (.int .i64 5) { S with st:=5 } (fj rfl rfl rfl rfl rfl rfl rfl rfl rfl rfl rfl rfl rfl rfl rfl rfl)
    go_wp2_with fail;go_ret;refine bf.after hs AP.out f ho (bf.TD (an.out (by rw[Xd.out,Cm.out];simp)) rfl h4 ⟨HB.out,rfl,b.last,b.left,b.c0,b.c1,b.c2,rfl,λ_=>rfl,λe=>by simp at e,λe=>by simp at e,λe=>by simp at e,b.tail,b.rem,b.err⟩ rfl)
  have Cm:=η Fg;clear Fg
  go_wp2_with fail;refine G.out.mono ?_;rintro e w3 ⟨g3,rfl,Qd,D⟩;have V:=F.keeps D
  go_wp2_with fail;go_ret;exact bf.after hs AP.out f ho (bf.vk (Q.out (.inr Cm.out)) δ δ δ rfl V b.err rfl)
end
end Go.Proofs.YtdhmnlpfhfmpfaaGreat
