/-
  part
-/
import Derived.Test.YtdhmnlpfhfmpfaaGreatInfE
import Derived.BigRegion
set_option linter.unusedVariables false
set_option maxRecDepth 100000
set_option maxHeartbeats 4000000
namespace Go.Proofs.YtdhmnlpfhfmpfaaGreat
open Go.RowKit
section
variable {w w' w0 w2:World} {b0 g:Nat} {c c0:Nat->Nat} {M M':DM} {S S':DS} {s t t':IS} {b:List Int} {v:Int}
theorem bz.fp (a:jb w b0 g c M S) (hd:DE b0 w0 c0 w c) (h:bz w c w' b0 g M' S'):bz w0 c0 w' b0 g M' S':=by
 obtain⟨c',e,b⟩ :=h;exact⟨c',e,hd.step a.lo (λk d=>(a.cb k d).1) b.2.1 b.2.2⟩
theorem bz.restore (h:bz w0 c0 w b0 g M S) {a':Nat} (c:a'<=8*M.B.length):bz w0 c0 ((w.setCell ⟨M.gi,0,none⟩ (.slice M.Ai M.ni M.ci)).setCell ⟨M.gi,1,none⟩ (.int .i64 a')) b0 g { M with a:=a' } S:=by
 have b:=h.mg;refine h.moved (((bj.refl w (λk=>k=M.gi)).setCell (p:= ⟨M.gi,0,none⟩) (.inl rfl) _).setCell (p:= ⟨M.gi,1,none⟩) (.inl rfl) _) ⟨((b.cell.bC (i:=0) ω _).bC (i:=1) ω _).congr λi hi=> ?_,b.lo,(b.own.far (p:= ⟨M.gi,0,none⟩) b.apart _).far (p:= ⟨M.gi,1,none⟩) b.apart _,b.apart,b.jU,c⟩;obtain rfl | rfl:i=0\/i=1:=ω
 · rfl
 rfl
def jC (w0:World) (c0:Nat->Nat) (b0 g:Nat) (M:DM) (S:DS) (t:IS) (e:Ending) (w':World):Prop:=
 ∃M' v t',e= .returned (.int .i64 v)/\bz w0 c0 w' b0 g M' S/\M'.out=M.out/\t'.all=t.all/\
  ((v=0/\t.step=(t',0)/\t'.st=5/\Live M' S t')\/(v=5/\t.step.2=5/\t'=t/\Live M' S t)\/(v≠0/\v≠5/\v≠8/\t.step=(t',v)))
theorem jC.go (b:t.step=(t',0)) (h5:t'.st=5) (a:t'.all=t.all) (h:bz w0 c0 w' b0 g M' S) (d:Live M' S t') (c:M'.out=M.out):jC w0 c0 b0 g M S t (.returned (.int .i64 0)) w':=
 ⟨M',0,t',rfl,h,c,a, .inl ⟨rfl,b,h5,d⟩⟩
theorem jC.lack (a:t.step.2=5) (h:bz w0 c0 w' b0 g M' S) (c:Live M' S t) (b:M'.out=M.out):jC w0 c0 b0 g M S t (.returned (.int .i64 5)) w':=
 ⟨M',5,t,rfl,h,b,rfl, .inr (.inl ⟨rfl,a,rfl,c⟩)⟩
theorem jC.bad (b:t.step=(t',v)) (e:v≠0) (h5:v≠5) (d:v≠8) (a:t'.all=t.all) (h:bz w0 c0 w' b0 g M' S) (c:M'.out=M.out):jC w0 c0 b0 g M S t (.returned (.int .i64 v)) w':=
 ⟨M',v,t',rfl,h,c,a, .inr (.inr ⟨e,h5,d,b⟩)⟩
def a8r (w0:World) (c0:Nat->Nat) (b0 g:Nat) (M:DM) (S:DS) (n:Nat) (K:Int) (k:Nat) (i:Value) (wr:World):Prop:=
 ∃j A2 a c2,j<=n/\Hid (k=n-j)/\i= .int .i64 j/\bz w0 c0 wr b0 g { M with Al:=A2,nl:=a,cl:=c2,lens:=M.lens++List.replicate j K } S
theorem Hj (h:bz w0 c0 w b0 g M S) (b:Live M S t) (hO:t.Ok) (o:t.st=5) (ad:t.lens.length<t.c0+t.c1):
  Calls Tryz.prog 146 #[.pointer (some ⟨g,0,none⟩)] w (jC w0 c0 b0 g M S t):=by
 obtain⟨c,r,hD⟩ :=h;have C:Below w.heap.size w (w.alloc (.cells #[.slice M.Ai M.ni M.ci, .int .i64 (M.a:Nat)] 122)).drew:=((aw _ w).alloc (ag _) _).drew;have D:=r.keeps C;have R:=hD.step (c':=c) r.lo (λk hk=>(r.cb k hk).1) (bj.bA C) (λ_ _=>rfl);have h1:=D.refl;obtain⟨t0,B,gt,hp,Iu,xT,oM,dy⟩ :=h1.b0N (b.hd o)
 have um:c w.heap.size=0:=by
  by_cases e:c w.heap.size=0
  · exact e
  have:=(r.cb _ e).2;omega
 have bt:M.gi<w.heap.size:=r.mg.cell.lt;have oL:g<w.heap.size:=r.cell.lt;have J:=xJ _ t0 B gt b0 M.gi M.ni M.ci M.a M.Ai t.hd M.B Iu oM D.mg (au r.bB ω) xT dy;rw[show lC=lC from rfl]at J;unfold lC at J;have hb:=b.x;rw[hb]at J;have d:Hid (t.step=t.length):=IE o ad;unfold IS.length at d;obtain⟨i0,hi,ab,Z,Y⟩ :=aJ mI;have Hi:=η hi;have gV:=η ab;have fY:=η Z;have gW:=η Y;clear hi ab Z Y;obtain⟨K,hK⟩ :=ν ((aI t.hd t.x).1);obtain⟨n,hn⟩ :=ν ((aI t.hd t.x).2.1);obtain⟨E,hE⟩ :=ν ((aI t.hd t.x).2.2);have q:Hid (E≠0->n=0):=λh=>by rw[<-hn];exact(sI (by rw[hE];exact h)).2
 have gU:Hid (E=0\/E=3\/E=5):=by have:=eV t.hd t.x;rw[hE]at this;exact this
 have oC:Hid (E=0->0<=K/\K<19/\n<=t.x.length):=λh=>by
  obtain⟨k2,X,e1,e2,e3,e4,e5⟩ :=lT (l:=t.hd) (x:=t.x) hO.bit (by rw[hE,h];simp);have:=(hO.h5 o).2.2.2;rw[e1]at hK hn;simp at hK hn;omega
 rw[hK,hn,hE]at J d;have pA:=η J;have NU:=r.cell.cell (i:=12) ω;rw[show dF M S 12= .pointer (some ⟨gt,0,none⟩) from aL Value.pointer hp]at NU;have k0:=r.cell.cell (i:=0) ω;rw[show dF M S 0= .pointer (some ⟨M.gi,0,none⟩) from rfl]at k0;have r0:=r.mg.cell.cell (i:=0) ω;have r1:=r.mg.cell.cell (i:=1) ω;rw[show rf M.Ai M.ni M.ci M.a 0= .slice M.Ai M.ni M.ci from rfl]at r0;rw[show rf M.Ai M.ni M.ci M.a 1= .int .i64 (M.a:Nat) from rfl]at r1;obtain⟨ac,ZO,ZP,ZQ⟩ :=hO.h5 o;have bl:=hO.cc (.inr o);have fX:=r.lens.1;rw[b.lens]at fX;have bo:(0:Int)<=M.nl/\(M.nl:Int)<=316/\(0:Int)<=S.c0/\(S.c0:Int)<=286/\(0:Int)<=S.c1/\(S.c1:Int)<=30:=by have:=b.c0;have:=b.c1;omega
 have tZ:=η fX;have HB:=η hb;have bI:=η hp;have f:=η o;have Rf:=η um;have bx:=η ac;clear J hK hn hE hp hb fX o Iu xT oM dy h1 um ZO ZQ ZP bl ac ad C;go_enter Tryz.func146,Tryz.ntmps146
 go_wp2_with fail;go_cut [4,5] (λs4 s5 wx=>s4= .int .i64 K/\s5= .int .i64 E/\qd wx b0 M.gi M.Ai M.ni M.ci M.B (M.a+n)/\bj (w.alloc (.cells #[.slice M.Ai M.ni M.ci, .int .i64 (M.a:Nat)] 122)).drew wx (λk=>k=M.gi))
 case first=>
  go_region_law
   ((go_simp;go_at_call 147;(refine pA.out.mono ?_))
    rintro e w5 ⟨rfl,pP,nL⟩)
  all_goals
   go_wp2_with fail;go_meet;exact⟨rfl,rfl,pP,nL⟩
 obtain⟨rfl,rfl,pP,nL⟩ :=hcut;have h5:=D.refl.moved nL pP;have rq:Hid (rb M.B (M.a+n)=t.x.drop n):=by show _=_;rw[<-kI,HB.out]
 clear pP;by_cases nK:E=0
 rotate_left
 · have Cu:(E==0)=false:=by simpa using nK
   have L:=q.out nK;have u:=η (d.out.trans (ae nK));have bi:=η (gU.out.resolve_left nK);clear q gU oC d pA;subst L;have h6:=bz.fp D R h5
   go_wp2_with fail;go_ret;rcases bi.out with he | he
   · subst he;exact jC.bad u.out δ δ δ rfl h6 rfl
   subst he;exact jC.lack (by rw[u.out]) h6 b rfl
 subst nK;obtain⟨I0,YN,J⟩ :=oC.out rfl;have je:=η (d.out.trans (aa δ));clear q gU oC d pA;by_cases F0:K<16
 · have u:=η (je.out.trans (ae F0));clear je;obtain⟨-, -, -, -, -, -, -, -, -, -, -,v, -⟩ :=h5.cells;have iY:=h5.lens.alloc (.cells #[.int .i64 K] 3);have C:=h5.lo
   go_wp2_with (at_builtin;(refine ba .i64 b0 3 i0 8 rfl (.tmp 35) (.tmp 37) _ rfl Tryz.underlying63 Hi.out gV.out fY.out gW.out rfl iY rfl (bU.lit .i64 wc [K] 3) (by show M.nl+1<=_;omega) ω ξ ?_)
                intro A4 d4 w4 bE A dP;have iE:=(h5.cell.alloc (.cells #[.int .i64 K] 3)).grown A (λe=>h5.apart.2.1 e.symm);have am:=iE.cell (i:=11) ω;have al:=iE.frozen' (i:=11) ω)
   have h6:=bz.fp D R (h5.push K A bE dP);go_ret;exact jC.go u.out f.out rfl h6 ⟨rq.out,b.st,b.last,b.left,b.c0,b.c1,b.c2,by show M.lens++[K]=t.lens++[K];rw[b.lens],λ_=>b.hd f.out,λe=>by simp [f.out]at e,λe=>by simp [f.out]at e,λe=>by simp [f.out]at e,b.tail,b.rem,b.err⟩ rfl
 have kh:=η (je.out.trans (aa F0));clear je;have m:K=16\/K=17\/K=18:=ω;obtain⟨-, -, -, -, -, -, -, -, -, -, -,v, -⟩ :=h5.cells;obtain⟨Bd,JR⟩ :=ν (decide (K=16/\t.lens.length=0));have G:=η JR;clear JR;go_upto_region 8 with fail
 go_cut [50] (λs wx=>s= .bool Bd/\wx=wc)
 case first=>
  by_cases U:K=16
  · by_cases L:M.nl=0
    · have hd:Hid (true=Bd):=by show _=_;rw[<-G.out];exact(aS ⟨U,by rw[<-tZ.out];exact L⟩).symm
      have b2x:wc.cell? ⟨g,11,none⟩ =some (.slice M.Al 0 M.cl):=by rw[<-L];exact v
      clear v L G;subst U
      go_wp2_with fail;go_meet;exact⟨aL Value.bool hd.out,rfl⟩
    have hd:Hid (false=Bd):=by show _=_;rw[<-G.out];exact(aO λh=>L (by rw[tZ.out];exact h.2)).symm
    have LA:((M.nl:Int)==0)=false:=ξ;clear L G;subst U
    go_wp2_with fail;go_meet;exact⟨aL Value.bool hd.out,rfl⟩
  have hd:Hid (false=Bd):=by show _=_;rw[<-G.out];exact(aO λh=>U h.1).symm
  have be:(K==16)=false:=by simpa using U
  clear U G
  go_wp2_with fail;go_meet;exact⟨aL Value.bool hd.out,rfl⟩
 obtain⟨rfl,rfl⟩ :=hcut;by_cases Q:K=16/\t.lens.length=0
 · have u:=η (kh.out.trans (ae Q));rw[<-G.out,aS Q];have h6:=bz.fp D R h5;clear Q kh m F0
   go_wp2_with fail;go_ret;exact jC.bad u.out δ δ δ rfl h6 rfl
 have kR:=η (kh.out.trans (aa Q));rw[<-G.out,aO Q];have vM:K=16->0<M.nl:=λh=>by have:=tZ.out;omega
 clear kh Q;by_cases z:(t.x.drop n).length<IS.rW K
 · have u:=η (kR.out.trans (ae z));have y:=Ph h5 K m (by rw[show({ M with a:=M.a+n }:DM).B=M.B from rfl,show({ M with a:=M.a+n }:DM).a=M.a+n from rfl,rq.out];exact z);have P:=η y;clear y z kR vM m
   go_wp2_with fail;refine P.out.mono ?_;rintro e V ⟨rfl,h6⟩;obtain⟨c6,ah,O⟩ :=h6;have H:∀i,V.cell? ⟨w.heap.size,i,none⟩ =(w.alloc (.cells #[.slice M.Ai M.ni M.ci, .int .i64 (M.a:Nat)] 122)).drew.cell? ⟨w.heap.size,i,none⟩ :=λi=>O.2.1.cell (p:= ⟨w.heap.size,i,none⟩) σ (λe=>e Rf.out);have x0:V.cell? ⟨w.heap.size,0,none⟩ =some (.slice M.Ai M.ni M.ci):=by rw[H 0];simp
   have x1:V.cell? ⟨w.heap.size,1,none⟩ =some (.int .i64 (M.a:Nat)):=by rw[H 1];simp
   have h6:bz _ c V b0 g { M with a:=M.a+n } S:= ⟨c6,ah,O⟩;have j0:=h6.cell.cell (i:=0) ω;rw[show dF { M with a:=M.a+n } S 0= .pointer (some ⟨M.gi,0,none⟩) from rfl]at j0;have s0:=h6.mg.cell.cell (i:=0) ω;have s1:=h6.mg.cell.cell (i:=1) ω;have z0:=h6.mg.cell.frozen' (i:=0) ω;have z1:=h6.mg.cell.frozen' (i:=1) ω;have h7:=bz.fp D R (h6.restore (a':=M.a) r.mg.le);clear H ah O
   go_wp2_with fail;go_region
   all_goals
    go_wp2_with fail;go_ret;exact jC.lack (by rw[u.out]) h7.drew b rfl
 have I:=η (kR.out.trans (aa z));unfold IS.ku at I;have rI:=gD (hO.bit.dX n) (IS.rW K);have Xw:2 ^ IS.rW K<=2 ^ 7:=bq ω (by rcases m with rfl | rfl | rfl <;> decide);have UR:IS.rB K<=11:=by rcases m with rfl | rfl | rfl <;> decide
 obtain⟨F,N⟩ :∃F:Int,F=if K=16 then ix t.lens (t.lens.length-1)else 0:= ⟨_,rfl⟩;have uy:rb ({ M with a:=M.a+n }:DM).B ({ M with a:=M.a+n }:DM).a=t.x.drop n:=rq.out;obtain⟨T,hT⟩ :=ν (IS.rB K+num (t.x.drop n) (IS.rW K));have y:=Yj h5 K m (by rw[uy];omega) vM (by show M.nl<=1000;omega) (T:Int) F (by rw[uy,hT]) (by rw[N];show _=if K=16 then ix M.lens (M.lens.length-1)else 0;rw[b.lens]);rw[hT]at I;rw[<-N]at I;have bv:(0:Int)<=T/\(T:Int)<=200:=ω;have P:=η y;have UU:Hid (rb M.B (M.a+n+IS.rW K)=(t.x.drop n).drop (IS.rW K)):=by show _=_;rw[<-kI,rq.out]
 have ap:IntKind.i64.wrap ((M.nl:Int)+(T:Int))=(M.nl:Int)+(T:Int):=aK _ ω;have ao:IntKind.i64.wrap ((S.c0:Int)+(S.c1:Int))=(S.c0:Int)+(S.c1:Int):=aK _ ω;have Ic:Hid ((S.c0:Int)+(S.c1:Int)<(M.nl:Int)+(T:Int)↔t.c0+t.c1<t.lens.length+T):=by show _↔_;rw[<-b.c0,<-b.c1,<-tZ.out];omega
 clear rI Xw UR hT y z kR vM N uy v;generalize IS.rW K=W at*;have be:K=16\/K=17\/K=18:=m;clear m
 go_wp2_with fail;refine P.out.mono ?_;rintro e V ⟨rfl,h6⟩;obtain⟨-, -, -, -, -, -, -, -,j8,j9, -,an, -⟩ :=h6.cells;by_cases kg:(S.c0:Int)+(S.c1:Int)<(M.nl:Int)+(T:Int)
 · have u:=η (I.out.trans (ae (Ic.out.1 kg)));have h7:=bz.fp D R h6.drew;clear I Ic
   go_wp2_with fail;go_region
   all_goals
    go_wp2_with fail;go_ret;exact jC.bad u.out δ δ δ rfl h7 rfl
 have u:=η (I.out.trans (aa (λh=>kg (Ic.out.2 h))));clear I Ic
 go_wp2_with fail;go_region
 all_goals
  go_wp2_with fail;go_loopg [89] T (a8r (w.alloc (.cells #[.slice M.Ai M.ni M.ci, .int .i64 (M.a:Nat)] 122)).drew c b0 g { M with a:=M.a+n+W } S T F)
  case atStart=>exact⟨0,M.Al,M.nl,M.cl,aF _,rfl,rfl,by rw[List.replicate_zero,ax];exact h6.drew⟩
  clear h6 ap ao j8 j9 an;obtain⟨j,A2,X,c2,hj,hk,rfl,h6⟩ :=hrel;by_cases bs:(j:Int)<(T:Int)
  rotate_left
  · obtain rfl:j=T:=ω;have h7:=bz.fp D R h6
    go_wp2_with fail;go_ret;exact jC.go u.out f.out rfl h7 ⟨UU.out,b.st,b.last,b.left,b.c0,b.c1,b.c2,by show M.lens++List.replicate _ _=t.lens++List.replicate _ _;rw[b.lens],λ_=>b.hd f.out,λe=>by simp [f.out]at e,λe=>by simp [f.out]at e,λe=>by simp [f.out]at e,b.tail,b.rem,b.err⟩ rfl
  obtain⟨-, -, -, -, -, -, -, -, -, -, -,v, -⟩ :=h6.cells;have iY:=h6.lens.alloc (.cells #[.int .i64 F] 3);have C:=h6.lo;have pn:X=(M.lens++List.replicate j F).length:=h6.lens.1;rw[af,aQ,<-r.lens.1]at pn;have aE:X+1<=1000000000000:=ω;have bp:(0:Int)<=X:=ω;clear pn
  go_wp2_with (at_builtin;(refine ba .i64 b0 3 i0 8 rfl (.tmp 95) (.tmp 97) _ rfl Tryz.underlying63 Hi.out gV.out fY.out gW.out rfl iY rfl (bU.lit .i64 wr [F] 3) aE ω ξ ?_)
               intro A4 d4 w4 bE A dP;have iE:=(h6.cell.alloc (.cells #[.int .i64 F] 3)).grown A (λe=>h6.apart.2.1 e.symm);have am:=iE.cell (i:=11) ω;have al:=iE.frozen' (i:=11) ω)
  have h7:=h6.push F A bE dP;go_roundg (gk-1)
  case measure=>have:=hk.out;omega
  refine⟨j+1,A4,X+1,d4,ω,by show gk-1=_;have:=hk.out;omega,by go_num, ?_⟩;rw[List.replicate_succ',<-ak];exact h7
end
section
variable {w w' w0 w2:World} {b0 g:Nat} {c c0:Nat->Nat} {M M':DM} {S S':DS} {s t t':IS} {b:List Int} {v:Int}
theorem bz.a1T (h:bz w0 c0 w b0 g M S):bz w0 c0 (w.setCell ⟨g,13,none⟩ (.pointer none)) b0 g { M with lp:=none,lt:=none } S/\bz w0 c0 (w.setCell ⟨g,14,none⟩ (.pointer none)) b0 g { M with dp:=none,ds:=none } S:=by
 obtain⟨c,a,hd⟩ :=h;have m:ai M.Ao≠some g:=λe=>by have:=a.co g e;have:=a.cg;omega
 have s:ai M.Al≠some g:=λe=>by have:=a.cl g e;have:=a.cg;omega
 have yL:∀(i:Nat) (v:Value) (M':DM),i<16->(∀j,j<16->upd (dF M S) i v j=dF M' S j)->M'={ M with hp:=M'.hp,lp:=M'.lp,dp:=M'.dp,hd:=M'.hd,lt:=M'.lt,ds:=M'.ds }->
   (∀l,M'.hd=some l->kU w b0 c M'.hp l)->(∀l,M'.lt=some l->kU w b0 c M'.lp l)->(∀l,M'.ds=some l->kU w b0 c M'.dp l)->bz w0 c0 (w.setCell ⟨g,i,none⟩ v) b0 g M' S:=by
  intro i v M' hi hF t r o n;have d:bj w (w.setCell ⟨g,i,none⟩ v) (λk=>k=g):=(bj.refl w (λk=>k=g)).setCell (p:= ⟨g,i,none⟩) (.inl rfl) v;have f:∀{p l},kU w b0 c p l->kU (w.setCell ⟨g,i,none⟩ v) b0 c p l:=λht=>ht.fz d (λk b=>by subst b;rw[a.cg];decide) λ_ _=>rfl
  refine⟨c, ⟨(a.cell.bC hi v).congr hF,a.cg, ?_, ?_, ?_, ?_, ?_, ?_, ?_, ?_,λl q=>f (r l q),λl q=>f (o l q),λl q=>f (n l q),λk b=> ⟨(a.cb k b).1,aD (a.cb k b).2 d.size⟩, ?_⟩,
   hd.step a.lo (λk b=>(a.cb k b).1) (d.more λk b=>by subst b;rw[a.cg];decide) λ_ _=>rfl⟩
  all_goals rw[t]
  · exact a.mg.fz d (λk b e=>by have:=a.cr k b;have:=a.cg;subst e;omega)
  · exact a.cr
  · exact a.Gb.fz d (λk b e=>by have:=a.cw k b;have:=a.cg;subst e;omega)
  · exact a.cw
  · exact d.eH a.out (λk b e=>by subst e;exact m b)
  · exact a.co
  · exact d.eH a.lens (λk b e=>by subst e;exact s b)
  · exact a.cl
  exact a.bB
 exact⟨yL 13 _ _ ω (fj rfl rfl rfl rfl rfl rfl rfl rfl rfl rfl rfl rfl rfl rfl rfl rfl) rfl a.th (λl q=>by simp at q) a.td,yL 14 _ _ ω (fj rfl rfl rfl rfl rfl rfl rfl rfl rfl rfl rfl rfl rfl rfl rfl rfl) rfl a.th a.tl (λl q=>by simp at q)⟩
def MR (w w':World) (l:List Int) (most:Int) (p:Option Addr):Prop:=
 Below w.heap.size w w'/\((bb l most=0/\∃g,p=some ⟨g,0,none⟩/\yv w' w.heap.size w'.heap.size g l)\/(bb l most≠0/\p=none))
theorem CS (w:World) (A:Option Addr) (n c B:Nat) (l:List Int) (most:Int) (a:bU .i64 w B A n l) (f:B<=w.heap.size) (b:n<=288) (E:Int) (hE:bb l most=E):
  Calls Tryz.prog 110 #[.slice A n c, .int .i64 most] w λe w'=>∃p,e= .returned (.tuple #[.pointer p, .int .i64 E])/\MR w w' l most p:=by
 subst hE;by_cases h:bb l most=0
 · refine(o0 w A n c B l most a f b h).mono ?_;rintro e w' ⟨g,rfl,ht,d⟩;exact⟨_,by rw[h],d, .inl ⟨h,g,rfl,ht⟩⟩
 refine(Hc w A n c B l most a ω h).mono ?_;rintro e w' ⟨rfl,rfl⟩;exact⟨_,rfl,aw _ _, .inr ⟨h,rfl⟩⟩
theorem bz.a7Z (h:bz w0 c0 w b0 g M S) {l:List Int} {p:Option Addr} {most:Int} (ht:MR w w' l most p) (f:l.length<=288):
  (∃o,(bb l most=0->o=some l)/\bz w0 c0 (w'.setCell ⟨g,13,none⟩ (.pointer p)) b0 g { M with lp:=p,lt:=o } S)/\
  (∃o,(bb l most=0->o=some l)/\bz w0 c0 (w'.setCell ⟨g,14,none⟩ (.pointer p)) b0 g { M with dp:=p,ds:=o } S):=by
 obtain⟨d, ⟨c,j,rfl,i⟩ | ⟨c,rfl⟩⟩ :=ht
 · obtain⟨-,a,b⟩ :=h.a0l d i f;exact⟨⟨_,λ_=>rfl,a⟩, ⟨_,λ_=>rfl,b⟩⟩
 obtain⟨a,b⟩ :=(h.keeps d).a1T;exact⟨⟨_,λe=>absurd e c,a⟩, ⟨_,λe=>absurd e c,b⟩⟩
def a4D (w0:World) (c0:Nat->Nat) (b0 g:Nat) (M:DM) (S:DS) (s:IS) (k:Nat) (wr:World):Prop:=
 ∃M' t,bz w0 c0 wr b0 g M' S/\IS.Steps s t/\Live M' S t/\t.Ok/\t.st=5/\M'.out=M.out/\t.all=s.all/\Hid (k=t.mu)/\Hid (t.mu<=s.mu)
def a0M (w0:World) (c0:Nat->Nat) (b0 g:Nat) (M:DM) (S:DS) (l:List Int) (wx:World):Prop:=∃p o,(bb l 15=0->o=some l)/\bz w0 c0 wx b0 g { M with lp:=p,lt:=o } S
def a0N (w0:World) (c0:Nat->Nat) (b0 g:Nat) (M:DM) (S:DS) (l:List Int) (wx:World):Prop:=∃p o,(bb l 15=0->o=some l)/\bz w0 c0 wx b0 g { M with dp:=p,ds:=o } S
theorem EH (h:bz w0 c0 w b0 g M S) (c:Live M S s) (hO:s.Ok) (d:s.st=5):
  Calls Tryz.prog 127 #[.pointer (some ⟨g,0,none⟩)] w (bf w0 c0 b0 g M s):=by
 obtain⟨i0,hi,K,J,I⟩ :=aJ mI;have Hi:=η hi;have gV:=η K;have fY:=η J;have gW:=η I;clear hi K J I;go_enter Tryz.func127,Tryz.ntmps127;go_wp2;go_loopg [] s.mu (a4D w0 c0 b0 g M S s)
 case atStart=>exact⟨M,s,h, .refl s,c,hO,d,rfl,rfl,rfl,ag _⟩
 clear h c hO d;obtain⟨a,t,h,Q,c,hO,d,R,f,hk,U⟩ :=hrel;obtain⟨O,ZO,ZP,ZQ⟩ :=hO.h5 d;have V:=hO.cc (.inr d);obtain⟨-, -, -, -, -, -, -, -,k8,k9, -,G, -⟩ :=h.cells;have fX:=h.lens.1;rw[c.lens]at fX;have JY:(0:Int)<=a.nl/\(a.nl:Int)<=316/\(257:Int)<=S.c0/\(S.c0:Int)<=286/\(1:Int)<=S.c1/\(S.c1:Int)<=30/\(a.nl:Int)<=(S.c0:Int)+(S.c1:Int):=by have:=c.c0;have:=c.c1;omega
 have n:=η c.c0;have Et:=η c.c1;have tZ:=η fX;have bs:=η d;have bl:IntKind.i64.wrap ((S.c0:Int)+(S.c1:Int))=(S.c0:Int)+(S.c1:Int):=aK _ ω;by_cases bo:(a.nl:Int)<(S.c0:Int)+(S.c1:Int)
 · have lq:=Hj h.drew c hO d (by have:=n.out;have:=Et.out;have:=tZ.out;omega);have ML:=η lq;clear lq fX d O ZO ZP ZQ V
   go_wp2_with fail;go_region
   all_goals
    go_wp2_with fail;refine ML.out.mono ?_;rintro e w1 ⟨M2,v,t2,rfl,q,y,X,am⟩;rcases am with ⟨rfl,b,z,C⟩ | ⟨rfl,b,rfl,C⟩ | ⟨N,ah,ac,b⟩
    · have D:=η b;have Sn:=η z;have m:=η y;have tP:=η X;have ux:Hid (t2.mu<t.mu):=by have:=IS.jG (s:=t) (by rw[b]);rw[b]at this;exact this
      clear b z y X
      go_wp2_with fail;go_roundg t2.mu
      case measure=>have:=hk.out;have:=ux.out;omega
      have x7:=hO.step (.inl (by rw[D.out]));have kR:=IS.Steps.tail Q (by rw[D.out]);rw[D.out]at x7 kR;exact⟨M2,t2,q,kR,C,x7,Sn.out,m.out.trans R,tP.out.trans f,rfl,au (cZ ux.out) U.out⟩
    · have D:=η b;have m:=η y;clear b y X
      go_wp2_with fail;go_ret;exact bf.after Q U.out f R (bf.lack D.out q C m.out)
    have D:=η b;have m:=η y;have tP:=η X;have bi:(v==0)=false:=by simpa using N
    clear b y X
    go_wp2_with fail;go_ret;exact bf.after Q U.out f R (bf.vk D.out N ah ac tP.out q c.err m.out)
 have lr:¬t.lens.length<t.c0+t.c1:=by have:=n.out;have:=Et.out;have:=tZ.out;omega
 have A:=η (IL d lr);have eL:=h.lens.2.jD;have T:a.nl=S.c0+S.c1:=ω;obtain⟨F,Cu⟩ :=ν (bb (t.lens.take t.c0) 15);obtain⟨E,yB⟩ :=ν (bb (t.lens.drop t.c0) 15);have Qa:=dV (P:=Tryz.prog) 63 3 Tryz.underlying63 Hi.out fY.out a.Al a.nl a.cl (j:=S.c0) ω;have Fj:=dc (P:=Tryz.prog) 63 3 Tryz.underlying63 Hi.out fY.out a.Al a.nl a.cl (j:=S.c0) ω
 have Es:Hid (∀W,aW .i64 W b0 3 a.Al a.nl a.cl a.lens->Calls Tryz.prog 110 #[.slice a.Al S.c0 a.cl, .int .i64 15] W λe w'=>∃p,e= .returned (.tuple #[.pointer p, .int .i64 F])/\MR W w' (t.lens.take t.c0) 15 p):=λW hW=>by
  rw[<-n.out,<-c.lens];exact CS W a.Al S.c0 a.cl _ _ 15 (hW.rd.pre ω) (ag _) ω F (by rw[n.out,c.lens];exact Cu)
 have GC:Hid (∀W,aW .i64 W b0 3 a.Al a.nl a.cl a.lens->Calls Tryz.prog 110 #[.slice (dx a.Al a.cl S.c0) (a.nl-S.c0) (a.cl-S.c0), .int .i64 15] W λe w'=>∃p,e= .returned (.tuple #[.pointer p, .int .i64 E])/\MR W w' (t.lens.drop t.c0) 15 p):=λW hW=>by
  rw[<-n.out,<-c.lens];exact CS W (dx a.Al a.cl S.c0) (a.nl-S.c0) (a.cl-S.c0) _ _ 15 (hW.rd.dx ω eL) (ag _) ω E (by rw[n.out,c.lens];exact yB)
 have MK:=η Cu;have Rj:=η yB
 have Zw:Hid ((t.lens.take t.c0).length<=288/\(t.lens.drop t.c0).length<=288):=by
  show _/\_;rw[aA,av];have:=n.out;have:=Et.out;have:=tZ.out;omega
 have b16:=η eL;have b1b:=η T;have xj:(256:Int)<(a.nl:Int):=ω;clear Cu yB eL T lr d O ZO ZP ZQ V fX;have hd:=h.drew
 go_wp2_with fail;go_region
 all_goals
  go_wp2_with fail;go_cut [4] (λs4 wx=>s4= .int .i64 F/\a0M w0 c0 b0 g a S (t.lens.take t.c0) wx)
  case first=>
   go_region_law
    ((go_simp;go_at_call 110;(refine(Es.out _ (by first | exact h.drew.drew.lens | exact h.drew.lens | exact(h.drewN _).lens)).mono ?_))
     rintro e w5 ⟨p,rfl,Y⟩;have u:=bz.keeps (by first | exact h.drew.drew | exact h.drew | exact h.drewN _) Y.1;have ap:=u.cell.frozen' (i:=13) ω;have be:=u.cell.cell (i:=13) ω)
   all_goals
    have bX:a0M w0 c0 b0 g a S (t.lens.take t.c0) (w5.setCell ⟨g,13,none⟩ (.pointer p)):=by
     obtain⟨⟨o,l,q⟩, -⟩ :=bz.a7Z (by first | exact h.drew.drew | exact h.drew | exact h.drewN _) Y Zw.out.1;exact⟨p,o,l,q⟩
    go_wp2_with fail;go_meet;exact⟨rfl,bX⟩
  obtain⟨rfl,p1,o1,rR,l⟩ :=hcut;have an:=η rR;clear rR k8 k9 G hd;obtain⟨-, -, -, -, -, -, -, -,k8,k9, -,G, -⟩ :=l.cells
  go_wp2_with fail;go_cut [5] (λs5 wx=>s5= .int .i64 E/\a0N w0 c0 b0 g { a with lp:=p1,lt:=o1 } S (t.lens.drop t.c0) wx)
  case first=>
   go_region_law
    ((go_simp;go_at_call 110;(refine(GC.out _ (by first | exact l.lens | exact l.drew.lens | exact(l.drewN _).lens)).mono ?_))
     rintro e w5 ⟨p,rfl,Y⟩;have u:=bz.keeps (by first | exact l | exact l.drew | exact l.drewN _) Y.1;have ao:=u.cell.frozen' (i:=14) ω;have aE:=u.cell.cell (i:=14) ω)
   all_goals
    have bX:a0N w0 c0 b0 g { a with lp:=p1,lt:=o1 } S (t.lens.drop t.c0) (w5.setCell ⟨g,14,none⟩ (.pointer p)):=by
     obtain⟨-, ⟨o,l,q⟩⟩ :=bz.a7Z (by first | exact l | exact l.drew | exact l.drewN _) Y Zw.out.2;exact⟨p,o,l,q⟩
    go_wp2_with fail;go_meet;exact⟨rfl,bX⟩
  obtain⟨rfl,p2,o2,y,q⟩ :=hcut;have m:=η y;clear y k8 k9 G;obtain⟨-, -, -, -, -,k5, -, -, -, -, -,G, -⟩ :=q.cells;have z5:=q.cell.frozen' (i:=5) ω;obtain⟨ad,hA,bp,Kw⟩ :=q.lens.rd.at_ (i:=256) (by show 256<a.nl;omega);have tR:a.Al=some ad:=hA;obtain⟨x,hx⟩ :=ν (ix a.lens 256);have a4Q:wc.cell? ⟨ad.block,ad.off+256,none⟩ =some (.int .i64 x):=by rw[<-hx,<-GL ad (k:=256) ω];exact Kw
  have ab:Hid (ix t.lens 256=x):=by show _=_;rw[<-c.lens];exact hx
  have b2z:wc.cell? ⟨g,11,none⟩ =some (.slice (some ad) a.nl a.cl):=by rw[<-tR];exact G
  obtain⟨Bd,JR⟩ :=ν (decide (F≠0\/E≠0\/x=0));have r:=η JR;have HA:=η tR;have h3:bz w0 c0 wc b0 g { a with lp:=p1,lt:=o1,dp:=p2,ds:=o2 } S:=q;clear JR hA tR hx Kw G l q;go_upto_region 8 with fail
  go_cut [76] (λs wx=>s= .bool Bd/\wx=wc)
  case first=>
   by_cases H:F=0
   rotate_left
   · have hd:Hid (true=Bd):=by show _=_;rw[<-r.out];exact(aS (.inl H)).symm
     have L:(F==0)=false:=by simpa using H
     clear r
     go_wp2_with fail;go_meet;exact⟨aL Value.bool hd.out,rfl⟩
   by_cases Z:E=0
   · by_cases e3:x=0
     · have hd:Hid (true=Bd):=by show _=_;rw[<-r.out];exact(aS (.inr (.inr e3))).symm
       clear r;subst H Z e3
       go_wp2_with fail;go_meet;exact⟨aL Value.bool hd.out,rfl⟩
     have hd:Hid (false=Bd):=by show _=_;rw[<-r.out];exact(aO (λh=>by rcases h with h | h | h;exact h H;exact h Z;exact e3 h)).symm
     have L:(x==0)=false:=by simpa using e3
     clear r;subst H Z
     go_wp2_with fail;go_meet;exact⟨aL Value.bool hd.out,rfl⟩
   have hd:Hid (true=Bd):=by show _=_;rw[<-r.out];exact(aS (.inr (.inl Z))).symm
   have L:(E==0)=false:=by simpa using Z
   clear r;subst H
   go_wp2_with fail;go_meet;exact⟨aL Value.bool hd.out,rfl⟩
  obtain⟨rfl,rfl⟩ :=hcut;have z:=η A.out;rw[MK.out,Rj.out,ab.out]at z;clear A;by_cases B:F≠0\/E≠0\/x=0
  · have b:=η (z.out.trans (ae B));rw[<-r.out,aS B];clear B z r
    go_wp2_with fail;go_ret;exact bf.after Q U.out f R (bf.vk b.out δ δ δ rfl h3 c.err rfl)
  have b:=η (z.out.trans (aa B));have yH:=η (an.out (by rw[MK.out];exact bO.1 λh=>B (.inl h)));have al:=η (m.out (by rw[Rj.out];exact bO.1 λh=>B (.inr (.inl h))));rw[<-r.out,aO B];have h4:=h3.put (i:=5) ω (.int .i64 6) { S with st:=6 } (fj rfl rfl rfl rfl rfl rfl rfl rfl rfl rfl rfl rfl rfl rfl rfl rfl);clear B z r
  go_wp2_with fail;go_ret;exact bf.after Q U.out f R (bf.TD b.out rfl h4 ⟨c.x,rfl,c.last,c.left,c.c0,c.c1,c.c2,c.lens,λe=>by simp at e,λ_=>yH.out,λ_=>al.out,λe=>by simp at e,c.tail,c.rem,c.err⟩ rfl)
end
section
variable {w w' w0 w2:World} {b0 g:Nat} {c c0:Nat->Nat} {M M':DM} {S S':DS} {s t t':IS} {b:List Int} {v:Int}
theorem xO (h:bz w0 c0 w b0 g M S) (j:Nat) (x:j<=8*M.B.length) (B:Int) (N:Nat) (t:(rb M.B M.a).length<N):
  Calls Tryz.prog 148 #[.pointer (some ⟨g,0,none⟩), .agg #[.slice M.Ai M.ni M.ci, .int .i64 j], .int .i64 B, .int .i64 N] w λe w'=>e= .returned (.tuple #[.int .i64 0, .int .i64 5])/\bz w0 c0 w' b0 g { M with a:=j } S:=by
 obtain⟨c,l,hD⟩ :=h;have d:Below w.heap.size w (w.alloc (.cells #[.slice M.Ai M.ni M.ci, .int .i64 (j:Nat)] 122)):=((aw _ w).alloc (ag _) _);have r:=l.keeps d;have y:=hD.step (c':=c) l.lo (λk u=>(l.cb k u).1) (bj.bA d) (λ_ _=>rfl)
 have o:c w.heap.size=0:=by
  by_cases e:c w.heap.size=0
  · exact e
  have:=(l.cb _ e).2;omega
 have v:M.gi<w.heap.size:=l.mg.cell.lt;have H:g<w.heap.size:=l.cell.lt;have A:=η o;have q:=oc r.refl N (.inr (.inr ω));have a1D:=η q;clear o q t d;go_enter Tryz.func148,Tryz.ntmps148
 go_wp2_with fail;refine a1D.out.mono ?_;rintro e n ⟨rfl,h6⟩;obtain⟨z,m,f⟩ :=h6;have b:∀i,n.cell? ⟨w.heap.size,i,none⟩ =(w.alloc (.cells #[.slice M.Ai M.ni M.ci, .int .i64 (j:Nat)] 122)).cell? ⟨w.heap.size,i,none⟩ :=λi=>f.2.1.cell (p:= ⟨w.heap.size,i,none⟩) σ (λe=>e A.out);have F:n.cell? ⟨w.heap.size,0,none⟩ =some (.slice M.Ai M.ni M.ci):=by rw[b 0];simp
 have E:n.cell? ⟨w.heap.size,1,none⟩ =some (.int .i64 (j:Nat)):=by rw[b 1];simp
 have h6:bz _ c n b0 g M S:= ⟨z,m,f⟩;have s:=h6.cell.cell (i:=0) ω;rw[show dF M S 0= .pointer (some ⟨M.gi,0,none⟩) from rfl]at s;have G:=h6.mg.cell.cell (i:=0) ω;have s1:=h6.mg.cell.cell (i:=1) ω;have D:=h6.mg.cell.frozen' (i:=0) ω;have C:=h6.mg.cell.frozen' (i:=1) ω;have h7:=bz.fp r y (h6.restore (a':=j) x);clear b m f
 go_wp2_with fail;go_region
 all_goals
  go_wp2_with fail
  go_ret2
  exact⟨rfl,h7.drew⟩
theorem CZ (h:bz w0 c0 w b0 g M S) (x:Value) (q:∃A n c a,x= .agg #[.slice A n c, .int .i64 a]) (B:Int) (u:0<=B/\B<=100000) (N:Nat) (hN:N<=20) (j:N<=(rb M.B M.a).length) (V:Int) (i:V=B+((num (rb M.B M.a) N:Nat):Int)):
  Calls Tryz.prog 148 #[.pointer (some ⟨g,0,none⟩),x, .int .i64 B, .int .i64 N] w λe w'=>e= .returned (.tuple #[.int .i64 V, .int .i64 0])/\bz w0 c0 w' b0 g { M with a:=M.a+N } S:=by
 obtain⟨p,l,m,o,rfl⟩ :=q;have d:Below w.heap.size w (w.alloc (.cells #[.slice p l m, .int .i64 o] 122)):=((aw _ w).alloc (ag _) _);have s:=h.keeps d;have b:=gD (dJ.rb M.B M.a) N;have hp:2 ^ N<=2 ^ 20:=bq ω hN;have f:=vB s N ω j;obtain⟨U,k⟩ :=ν (num (rb M.B M.a) N);rw[k]at i f b;have r:(0:Int)<=U/\(U:Int)<1048576:=ω;have a1D:=η f;have HV:=η i;clear f j d i k b hp hN;go_enter Tryz.func148,Tryz.ntmps148
 go_wp2_with fail;refine a1D.out.mono ?_;rintro e t ⟨rfl,h6⟩
 go_wp2_with fail
 go_ret2
 exact⟨by rw[HV.out];rfl,h6⟩
theorem KC {out a:List Int} (h:ve out a) {D N:Nat} (c:1<=D) (b:D<=a.length):N8 a D N=again out D N:=by
 unfold N8 again;refine bD λi _=> ?_;rw[<-lQ,h.back b,lQ]
end
section
variable {w w' w0 w2:World} {b0 g:Nat} {c c0:Nat->Nat} {M M':DM} {S S':DS} {s t t':IS} {b:List Int} {v:Int}
theorem KQ (h:bz w0 c0 w b0 g M S) (d:Live M S t) (hO:t.Ok) (A:t.st=6) (kP:M.out.length<=10000000000) (jE:(t.rem:Int)<=4611686018427387904):
  Calls Tryz.prog 128 #[.pointer (some ⟨g,0,none⟩)] w (bf w0 c0 b0 g M t):=by
 obtain⟨c,s,hD⟩ :=h;have H:Below w.heap.size w (w.alloc (.cells #[.slice M.Ai M.ni M.ci, .int .i64 (M.a:Nat)] 122)).drew:=((aw _ w).alloc (ag _) _).drew;have z:=s.keeps H;have J:=hD.step (c':=c) s.lo (λk D=>(s.cb k D).1) (bj.bA H) (λ_ _=>rfl);have h1:=z.refl;obtain⟨t0,B,gt,hp,Iu,xT,oM,dy⟩ :=h1.b0O (d.lt (.inl A))
 have um:c w.heap.size=0:=by
  by_cases e:c w.heap.size=0
  · exact e
  have:=(s.cb _ e).2;omega
 have aE:M.gi<w.heap.size:=s.mg.cell.lt;have oL:g<w.heap.size:=s.cell.lt;have P:=xJ _ t0 B gt b0 M.gi M.ni M.ci M.a M.Ai t.lt M.B Iu oM z.mg (au s.bB ω) xT dy;unfold lC at P;have hb:=d.x;rw[hb]at P;have f:Hid (t.step=t.token):=JD A;unfold IS.token at f;obtain⟨K,hK⟩ :=ν ((aI t.lt t.x).1);obtain⟨n,U⟩ :=ν ((aI t.lt t.x).2.1);obtain⟨E,hE⟩ :=ν ((aI t.lt t.x).2.2);have o:Hid (E≠0->n=0):=λh=>by rw[<-U];exact(sI (by rw[hE];exact h)).2
 have gU:Hid (E=0\/E=3\/E=5):=by have:=eV t.lt t.x;rw[hE]at this;exact this
 have oC:Hid (E=0->0<=K/\K<288/\n<=t.x.length):=λh=>by
  obtain⟨k2,n2,e1,e2,e3,e4,e5⟩ :=lT (l:=t.lt) (x:=t.x) hO.bit (by rw[hE,h];simp);rw[e1]at hK U;simp at hK U;omega
 rw[hK,U,hE]at P f;have pA:=η P;have NU:=s.cell.cell (i:=13) ω;rw[show dF M S 13= .pointer (some ⟨gt,0,none⟩) from aL Value.pointer hp]at NU;have k0:=s.cell.cell (i:=0) ω;rw[show dF M S 0= .pointer (some ⟨M.gi,0,none⟩) from rfl]at k0;have r0:=s.mg.cell.cell (i:=0) ω;have r1:=s.mg.cell.cell (i:=1) ω;rw[show rf M.Ai M.ni M.ci M.a 0= .slice M.Ai M.ni M.ci from rfl]at r0;rw[show rf M.Ai M.ni M.ci M.a 1= .int .i64 (M.a:Nat) from rfl]at r1;have HB:=η hb;have bo:=η hp;have q:=η A;have Rf:=η um;clear P hK U hE hp hb A Iu xT oM dy h1 um H;go_enter Tryz.func128,Tryz.ntmps128
 go_wp2_with fail;go_cut [4,5] (λs4 s5 wx=>s4= .int .i64 K/\s5= .int .i64 E/\qd wx b0 M.gi M.Ai M.ni M.ci M.B (M.a+n)/\bj (w.alloc (.cells #[.slice M.Ai M.ni M.ci, .int .i64 (M.a:Nat)] 122)).drew wx (λk=>k=M.gi))
 case first=>
  go_region_law
   ((go_simp;go_at_call 147;(refine pA.out.mono ?_))
    rintro e w5 ⟨rfl,pP,X⟩)
  all_goals
   go_wp2_with fail;go_meet;exact⟨rfl,rfl,pP,X⟩
 obtain⟨rfl,rfl,pP,X⟩ :=hcut;have h5:=z.refl.moved X pP;have x0:wc.cell? ⟨w.heap.size,0,none⟩ =some (.slice M.Ai M.ni M.ci):=by rw[X.cell (p:= ⟨w.heap.size,0,none⟩) σ (by show¬w.heap.size=M.gi;omega)];simp
 have x1:wc.cell? ⟨w.heap.size,1,none⟩ =some (.int .i64 (M.a:Nat)):=by rw[X.cell (p:= ⟨w.heap.size,1,none⟩) σ (by show¬w.heap.size=M.gi;omega)];simp
 have T:Hid (rb M.B (M.a+n)=t.x.drop n):=by show _=_;rw[<-kI,HB.out]
 have kg:=s.bB;have C:=d.rem;clear pP;by_cases nK:E=0
 rotate_left
 · have Cu:(E==0)=false:=by simpa using nK
   have sr:=o.out nK;have m:=η (f.out.trans (ae nK));have an:=η (gU.out.resolve_left nK);clear o gU oC f pA C;subst sr;have h6:=bz.fp z J h5
   go_wp2_with fail;go_ret;rcases an.out with he | he
   · subst he;exact bf.vk m.out δ δ δ rfl h6 d.err rfl
   subst he;exact bf.lack (by rw[m.out]) h6 d rfl
 subst nK;obtain⟨I0,YN,P⟩ :=oC.out rfl;have je:=η (f.out.trans (aa δ));clear o gU oC f pA;by_cases tT:K<256
 · have m:=η (je.out.trans (ae tT));unfold IS.emit at m;have r:Hid (S.most=t.rem):=C;have cW:=bU.lit .u8 wc [K] 5;have mb:Below wc.heap.size wc (wc.alloc (.cells ([K].map (Value.int .u8)).toArray 5)):=(aw _ wc).alloc (ag _) _;have h6:=h5.keeps mb;have PN:Hid (∀k,foot M.Aw M.gw k->k<wc.heap.size):=λk D=>(h5.Gb.eJ D).2;obtain⟨-,k1, -⟩ :=h6.cells;rw[show([K].map (Value.int .u8)).toArray= #[Value.int .u8 K] from rfl]at k1;have Y:=uT _ _ _ _ _ _ _ 1 _ _ _ _ h6.Gb cW σ σ;have a8c:=η Y;clear je C Y mb
   go_wp2_with fail;refine a8c.out.mono ?_;rintro e w7 ⟨A7,n7,c7,rfl,Ci,Gr,Ce⟩
   have h7:=h6.C3 Gr Ci (λk D=>by
    rcases D with D | D
    · exact .inl (.inl D)
    exact(Ce k D).imp (λe=> .inr e) id)
   have al:=Gr.rA cW σ (λ_ ad hA hf=>by
    injection hA with hA;subst hA;have:=PN.out _ hf;simp at this)
   have G:=wU h7 _ 1 1 _ [K] al (by have:=Gr.size;simp at this;omega) (ag _) ω kP (by show((S.most:Nat):Int)<=_;rw[r.out];exact jE);unfold mO at G;by_cases hz:t.rem=0
   · rw[ae (show S.most < [K].length by rw[r.out,hz];simp)]at G;have Ke:=η G;have HZ:=η hz;clear G hz
     go_wp2_with fail;refine Ke.out.mono ?_;rintro e w8 ⟨A8,n8,c8,rfl,N⟩
     go_wp2_with fail;go_ret;have F:t.step=({ t with x:=t.x.drop n,aj:=t.aj++[cu.mk K 0 0],all:=t.all++[K].take t.rem,rem:=t.rem - [K].length },6):=m.out.trans (by rw[ae (by rw[HZ.out];simp)]);refine bf.bad (b:=[K].take t.rem) F δ δ δ rfl (by rw[aA];simp;omega) (bz.fp z J N) d.err (by rw[r.out])
   rw[aa (show¬S.most < [K].length by rw[r.out];simp;omega)]at G;have Ke:=η G;have HZ:Hid ([K].take t.rem=[K]):=ay ξ;have ao:Hid (¬t.rem < [K].length):=by show¬_;simp;omega
   clear G hz
   go_wp2_with fail;refine Ke.out.mono ?_;rintro e w8 ⟨A8,n8,c8,rfl,N⟩
   go_wp2_with fail;go_ret;have F:t.step=({ t with x:=t.x.drop n,aj:=t.aj++[cu.mk K 0 0],all:=t.all++[K].take t.rem,rem:=t.rem - [K].length },0):=m.out.trans (by rw[aa ao.out]);refine bf.go (b:=[K].take t.rem) F rfl (by rw[HZ.out];simp) (bz.fp z J N) ⟨T.out,d.st,d.last,d.left,d.c0,d.c1,d.c2,d.lens,λe=>by simp [q.out]at e,λ_=>d.lt (.inl q.out),λ_=>d.ds (.inl q.out),λe=>by simp [q.out]at e, ?_, ?_,d.err⟩ (by rw[r.out])
   · show ve (t.all++[K].take t.rem) _;rw[HZ.out];exact d.tail.add [K]
   show S.most - [K].length=t.rem - [K].length;rw[r.out]
 have kh:=η (je.out.trans (aa tT));clear je C;by_cases u:K=256
 · have m:=η (kh.out.trans (ae u));have Q3:=D6 h5;have ap:=η Q3;clear kh Q3;subst u
   go_wp2_with fail;refine ap.out.mono ?_;rintro e w6 ⟨rfl,h6⟩
   go_wp2_with fail;go_ret;have ZH:({ t with x:=t.x.drop n }:IS).over.all=t.all:=by unfold IS.over;split <;> rfl
   refine bf.TD m.out ZH (bz.fp z J h6) ?_ (by split <;> rfl);have am:=h5.mg.le;cases CA:S.last with
   | true=>
     have W:t.last=true:=by rw[<-d.last];exact CA
     unfold IS.over;rw[ae (show({ t with x:=t.x.drop n }:IS).last=true from W),ae rfl,ae rfl];exact⟨by show rb M.B ((M.a+n+7)/8*8)=lD (t.x.drop n);rw[FL am,T.out],rfl,by show true=t.last;rw[W],d.left,d.c0,d.c1,d.c2,d.lens,λe=>by simp at e,λe=>by simp at e,λe=>by simp at e,λe=>by simp at e,d.tail,d.rem,d.err⟩
   | false=>
     have W:t.last=false:=by rw[<-d.last];exact CA
     unfold IS.over;rw[aa (show¬({ t with x:=t.x.drop n }:IS).last=true by show¬t.last=true;rw[W];decide),aa δ,aa δ];exact⟨T.out,rfl,by show false=t.last;rw[W],d.left,d.c0,d.c1,d.c2,d.lens,λe=>by simp at e,λe=>by simp at e,λe=>by simp at e,λe=>by simp at e,d.tail,d.rem,d.err⟩
 have kR:=η (kh.out.trans (aa u));have bl:(K==256)=false:=by simpa using u
 clear kh;by_cases I:285<K
 · have m:=η (kR.out.trans (ae I));have V:=Fw K (.inr I) ω wc;have Rk:=η V;have h6:=bz.fp z J h5;clear kR V u
   go_wp2_with fail;refine Rk.out.mono ?_;rintro e w6 ⟨rfl,rfl⟩
   go_wp2_with fail;go_ret;exact bf.vk m.out δ δ δ rfl h6 d.err rfl
 have O:=η (kR.out.trans (aa I));obtain⟨j,hj⟩ :=ν ((K-257).toNat);have xh:j<29:=ω;have V:=qF j xh K ω wc;have Rk:=η V;rw[hj]at O;have kf:=IB j xh;obtain⟨Q,ab⟩ :=ν (lB j);obtain⟨LE,Z⟩ :=ν (lE j);rw[ab,Z]at Rk O kf;have be:(0:Int)<=Q/\(Q:Int)<=258/\(0:Int)<=LE/\(LE:Int)<=5:=ω;have R:rb ({ M with a:=M.a+n }:DM).B ({ M with a:=M.a+n }:DM).a=t.x.drop n:=T.out;clear kR V hj xh ab Z kf u;by_cases v:(t.x.drop n).length<LE
 · have m:=η (O.out.trans (ae v));have y:Calls Tryz.prog 148 #[.pointer (some ⟨g,0,none⟩), .agg #[.slice M.Ai M.ni M.ci, .int .i64 M.a], .int .i64 Q, .int .i64 LE] wc λe w'=>e= .returned (.tuple #[.int .i64 0, .int .i64 5])/\bz (w.alloc (.cells #[.slice M.Ai M.ni M.ci, .int .i64 (M.a:Nat)] 122)).drew c w' b0 g M S:=xO h5 M.a s.mg.le Q LE (by rw[R];exact v);have GD:=η y;clear v O y R
   go_wp2_with fail;refine Rk.out.mono ?_;rintro e w6 ⟨rfl,rfl⟩
   go_wp2_with fail;refine GD.out.mono ?_;rintro e w7 ⟨rfl,h7⟩;have ac:=h7.cell.frozen' (i:=15) ω;have ah:=h7.cell.cell (i:=15) ω;have N:=bz.fp z J (h7.put (i:=15) ω (.int .i64 0) { S with len:=0 } (fj rfl rfl rfl rfl rfl rfl rfl rfl rfl rfl rfl rfl rfl rfl rfl rfl))
   go_wp2_with fail;go_ret;exact bf.lack (by rw[m.out]) N ⟨d.x,d.st,d.last,d.left,d.c0,d.c1,d.c2,d.lens,d.hd,d.lt,d.ds,λe=>by simp [q.out]at e,d.tail,d.rem,d.err⟩ rfl
 have m:=η (O.out.trans (aa v));obtain⟨L,rP⟩ :=ν (Q+num (t.x.drop n) LE);have y:=CZ h5 (.agg #[.slice M.Ai M.ni M.ci, .int .i64 M.a]) ⟨_,_,_,_,rfl⟩ Q ω LE ω (by rw[R];omega) (L:Int) (by rw[R,<-rP];simp);rw[rP]at m;have GD:=η y;have UU:Hid (rb M.B (M.a+n+LE)=(t.x.drop n).drop LE):=by show _=_;rw[<-kI,T.out]
 have bi:(0:Int)<=L:=ω;clear v O y R rP
 go_wp2_with fail;refine Rk.out.mono ?_;rintro e w6 ⟨rfl,rfl⟩
 go_wp2_with fail;refine GD.out.mono ?_;rintro e w7 ⟨rfl,h7⟩;have ac:=h7.cell.frozen' (i:=15) ω;have ah:=h7.cell.cell (i:=15) ω;have z5:=h7.cell.frozen' (i:=5) ω;have k5:=h7.cell.cell (i:=5) ω;have N:=bz.fp z J ((h7.put (i:=15) ω (.int .i64 L) { S with len:=L } (fj rfl rfl rfl rfl rfl rfl rfl rfl rfl rfl rfl rfl rfl rfl rfl rfl)).put (i:=5) ω (.int .i64 7) { S with len:=L,st:=7 } (fj rfl rfl rfl rfl rfl rfl rfl rfl rfl rfl rfl rfl rfl rfl rfl rfl))
 go_wp2_with fail;go_ret;exact bf.TD m.out rfl N ⟨UU.out,rfl,d.last,d.left,d.c0,d.c1,d.c2,d.lens,λe=>by simp at e,λ_=>d.lt (.inl q.out),λ_=>d.ds (.inl q.out),λ_=>rfl,d.tail,d.rem,d.err⟩ rfl
end
section
variable {w w' w0 w2:World} {b0 g:Nat} {c c0:Nat->Nat} {M M':DM} {S S':DS} {s t t':IS} {b:List Int} {v:Int}
theorem Cq (h:bz w0 c0 w b0 g M S) (f:Live M S t) (hO:t.Ok) (y:t.st=7) (kP:M.out.length<=10000000000) (jE:(t.rem:Int)<=4611686018427387904):
  Calls Tryz.prog 129 #[.pointer (some ⟨g,0,none⟩)] w (bf w0 c0 b0 g M t):=by
 obtain⟨c,o,hD⟩ :=h;have L:Below w.heap.size w (w.alloc (.cells #[.slice M.Ai M.ni M.ci, .int .i64 (M.a:Nat)] 122)).drew:=((aw _ w).alloc (ag _) _).drew;have z:=o.keeps L;have F:=hD.step (c':=c) o.lo (λk J=>(o.cb k J).1) (bj.bA L) (λ_ _=>rfl);have h1:=z.refl;obtain⟨t0,B,gt,hp,Iu,xT,oM,dy⟩ :=h1.b0M (f.ds (.inr y))
 have um:c w.heap.size=0:=by
  by_cases e:c w.heap.size=0
  · exact e
  have:=(o.cb _ e).2;omega
 have bx:M.gi<w.heap.size:=o.mg.cell.lt;have oL:g<w.heap.size:=o.cell.lt;have R:=xJ _ t0 B gt b0 M.gi M.ni M.ci M.a M.Ai t.ds M.B Iu oM z.mg (au o.bB ω) xT dy;unfold lC at R;have hb:=f.x;rw[hb]at R;have d:Hid (t.step=t.bk):=D4 y;unfold IS.bk at d;obtain⟨K,hK⟩ :=ν ((aI t.ds t.x).1);obtain⟨n,Y⟩ :=ν ((aI t.ds t.x).2.1);obtain⟨E,hE⟩ :=ν ((aI t.ds t.x).2.2);have m:Hid (E≠0->n=0):=λh=>by rw[<-Y];exact(sI (by rw[hE];exact h)).2
 have gU:Hid (E=0\/E=3\/E=5):=by have:=eV t.ds t.x;rw[hE]at this;exact this
 have oC:Hid (E=0->0<=K/\K<288/\n<=t.x.length):=λh=>by
  obtain⟨k2,n2,e1,e2,e3,e4,e5⟩ :=lT (l:=t.ds) (x:=t.x) hO.bit (by rw[hE,h];simp);rw[e1]at hK Y;simp at hK Y;omega
 rw[hK,Y,hE]at R d;have pA:=η R;have NU:=o.cell.cell (i:=14) ω;rw[show dF M S 14= .pointer (some ⟨gt,0,none⟩) from aL Value.pointer hp]at NU;have k0:=o.cell.cell (i:=0) ω;rw[show dF M S 0= .pointer (some ⟨M.gi,0,none⟩) from rfl]at k0;have r0:=o.mg.cell.cell (i:=0) ω;have r1:=o.mg.cell.cell (i:=1) ω;rw[show rf M.Ai M.ni M.ci M.a 0= .slice M.Ai M.ni M.ci from rfl]at r0;rw[show rf M.Ai M.ni M.ci M.a 1= .int .i64 (M.a:Nat) from rfl]at r1;have HB:=η hb;have ca:=η hp;have A:=η y;have Rf:=η um;clear R hK Y hE hp hb y Iu xT oM dy h1 um L;go_enter Tryz.func129,Tryz.ntmps129
 go_wp2_with fail;go_cut [4,5] (λs4 s5 wx=>s4= .int .i64 K/\s5= .int .i64 E/\qd wx b0 M.gi M.Ai M.ni M.ci M.B (M.a+n)/\bj (w.alloc (.cells #[.slice M.Ai M.ni M.ci, .int .i64 (M.a:Nat)] 122)).drew wx (λk=>k=M.gi))
 case first=>
  go_region_law
   ((go_simp;go_at_call 147;(refine pA.out.mono ?_))
    rintro e w5 ⟨rfl,pP,nL⟩)
  all_goals
   go_wp2_with fail;go_meet;exact⟨rfl,rfl,pP,nL⟩
 obtain⟨rfl,rfl,pP,nL⟩ :=hcut;have h5:=z.refl.moved nL pP;have x0:wc.cell? ⟨w.heap.size,0,none⟩ =some (.slice M.Ai M.ni M.ci):=by rw[nL.cell (p:= ⟨w.heap.size,0,none⟩) σ (by show¬w.heap.size=M.gi;omega)];simp
 have x1:wc.cell? ⟨w.heap.size,1,none⟩ =some (.int .i64 (M.a:Nat)):=by rw[nL.cell (p:= ⟨w.heap.size,1,none⟩) σ (by show¬w.heap.size=M.gi;omega)];simp
 have rq:Hid (rb M.B (M.a+n)=t.x.drop n):=by show _=_;rw[<-kI,HB.out]
 have kg:=o.bB;have H:=f.rem;clear pP;by_cases nK:E=0
 rotate_left
 · have Cu:(E==0)=false:=by simpa using nK
   have sr:=m.out nK;have r:=η (d.out.trans (ae nK));have bi:=η (gU.out.resolve_left nK);clear m gU oC d pA H;subst sr;have h6:=bz.fp z F h5
   go_wp2_with fail;go_ret;rcases bi.out with he | he
   · subst he;exact bf.vk r.out δ δ δ rfl h6 f.err rfl
   subst he;exact bf.lack (by rw[r.out]) h6 f rfl
 subst nK;obtain⟨I0,YN,R⟩ :=oC.out rfl;have je:=η (d.out.trans (aa δ));clear m gU oC d pA;obtain⟨ao,ap⟩ :=hO.h7 A.out;have Z:=f.len A.out;have HLEN:=η Z;have q:=η H;clear H Z;by_cases ad:29<K
 · have r:=η (je.out.trans (ae ad));have yI:=Cr K (.inr ω) wc;have U:=η yI;have h6:=bz.fp z F h5;clear je yI
   go_wp2_with fail;refine U.out.mono ?_;rintro e w6 ⟨rfl,rfl⟩
   go_wp2_with fail;go_ret;exact bf.vk r.out δ δ δ rfl h6 f.err rfl
 have Q:=η (je.out.trans (aa ad));obtain⟨j,hj⟩ :=ν (K.toNat);have xh:j<30:=ω;have yI:=oZ j xh K ω wc;have U:=η yI;rw[hj]at Q
 have kf:dB j<=32768/\dE j<=13:=by
  have:∀j,j<30->dB j<=32768/\dE j<=13:=by decide+kernel
  exact this j xh
 have vQ:=λv=> @T7 j v xh;obtain⟨T,ac⟩ :=ν (dB j);obtain⟨LE,ab⟩ :=ν (dE j);rw[ac,ab]at U Q kf vQ;have bI:(0:Int)<=T/\(T:Int)<=32768/\(0:Int)<=LE/\(LE:Int)<=13:=ω;have V:rb ({ M with a:=M.a+n }:DM).B ({ M with a:=M.a+n }:DM).a=t.x.drop n:=rq.out;clear je yI hj xh ac ab kf;by_cases s:(t.x.drop n).length<LE
 · have r:=η (Q.out.trans (ae s));have u:Calls Tryz.prog 148 #[.pointer (some ⟨g,0,none⟩), .agg #[.slice M.Ai M.ni M.ci, .int .i64 M.a], .int .i64 T, .int .i64 LE] wc λe w'=>e= .returned (.tuple #[.int .i64 0, .int .i64 5])/\bz (w.alloc (.cells #[.slice M.Ai M.ni M.ci, .int .i64 (M.a:Nat)] 122)).drew c w' b0 g M S:=xO h5 M.a o.mg.le T LE (by rw[V];exact s);have GD:=η u;clear s Q u V vQ
   go_wp2_with fail;refine U.out.mono ?_;rintro e w6 ⟨rfl,rfl⟩
   go_wp2_with fail;refine GD.out.mono ?_;rintro e w7 ⟨rfl,h7⟩;have h8:=bz.fp z F h7
   go_wp2_with fail;go_ret;exact bf.lack (by rw[r.out]) h8 f rfl
 have P:=η (Q.out.trans (aa s));unfold IS.text at P;have CG:=gD (hO.bit.dX n) LE;have F:Hid (DE b0 w0 c0 (w.alloc (.cells #[.slice M.Ai M.ni M.ci, .int .i64 (M.a:Nat)] 122)).drew c):=F;have bp:=vQ _ CG;obtain⟨D,TP⟩ :=ν (T+num (t.x.drop n) LE);have u:=CZ h5 (.agg #[.slice M.Ai M.ni M.ci, .int .i64 M.a]) ⟨_,_,_,_,rfl⟩ T ω LE ω (by rw[V];omega) (D:Int) (by rw[V,<-TP];simp);rw[TP]at P bp;have GD:=η u;have UU:Hid (rb M.B (M.a+n+LE)=(t.x.drop n).drop LE):=by show _=_;rw[<-kI,rq.out]
 have bX:(1:Int)<=D/\(D:Int)<=32768:=ω;have AZ:=f.tail.len;have I:M.nw=M.l.length:=o.Gb.mV;have bv:(3:Int)<=(S.len:Int)/\(S.len:Int)<=258:=by have:=HLEN.out;omega
 have bE:Hid (M.nw=M.l.length):=I;clear s Q u V TP vQ CG ao ap;by_cases F8:t.all.length<D
 · have r:=η (P.out.trans (ae F8))
   have O:Hid (∀W,yR W b0 M.gw M.Aw M.nw M.cw M.l->Calls Tryz.prog 149 #[.pointer (some ⟨M.gw,0,none⟩), .int .i64 S.len, .int .i64 D] W λe w'=>e= .returned (.tuple #[.slice none 0 0, .int .i64 3])/\W=w'):=λW hW=>by
    refine(P7 W b0 M.gw M.nw M.cw M.Aw M.l hW S.len D ⟨ω,ω⟩ (.inr ω)).mono ?_;rintro e w' ⟨rfl,hq⟩;exact⟨rfl,hq⟩
   clear F8 P AZ I
   go_wp2_with fail;refine U.out.mono ?_;rintro e w6 ⟨rfl,rfl⟩
   go_wp2_with fail;refine GD.out.mono ?_;rintro e w7 ⟨rfl,h7⟩;have k1:=h7.cell.cell (i:=1) ω;have al:=h7.cell.cell (i:=15) ω
   go_wp2_with fail
   go_region_law
    ((go_simp;go_at_call 149;(refine(O.out _ (by first | exact h7.Gb | exact h7.drew.Gb)).mono ?_))
     rintro e w8 ⟨rfl,rfl⟩)
   all_goals
    go_wp2_with fail;go_ret;exact bf.vk r.out δ δ δ rfl (bz.fp z F.out h7.drew) f.err rfl
 have r:=η (P.out.trans (aa F8));unfold IS.emit at r;have ah:D<=M.l.length:=ω;have U6:Hid (N8 M.l D t.len=again t.all D t.len):=KC f.tail ω ah
 have O:Hid (∀W,yR W b0 M.gw M.Aw M.nw M.cw M.l->Calls Tryz.prog 149 #[.pointer (some ⟨M.gw,0,none⟩), .int .i64 S.len, .int .i64 D] W (Gz W b0 M.gw M.Aw M.l D S.len)):=λW hW=>
  Yd W b0 M.gw M.nw M.cw M.Aw M.l hW S.len D ⟨ω,ω⟩ ⟨ω,ω⟩
 clear F8 P AZ I ah
 go_wp2_with fail;refine U.out.mono ?_;rintro e w6 ⟨rfl,rfl⟩
 go_wp2_with fail;refine GD.out.mono ?_;rintro e w7 ⟨rfl,h7⟩;have k1:=h7.cell.cell (i:=1) ω;have al:=h7.cell.cell (i:=15) ω
 go_wp2_with fail
 go_region_law
  ((go_simp;go_at_call 149;(refine(O.out _ (by first | exact h7.Gb | exact h7.drew.Gb)).mono ?_))
   rintro e w8 ⟨g9,A9,n9,c9,rfl,X,am,bt,bl,be⟩)
 all_goals
  have h8:=bz.C3 (M:={ M with a:=M.a+n+LE }) h7.drew bl am (λk J=>by
   rcases J with J | J
   · exact .inl (.inl J)
   exact(be k J).imp (λe=> .inr e) id)
  have z5:=h8.cell.frozen' (i:=5) ω;have k5:=h8.cell.cell (i:=5) ω;have h9:=h8.put (i:=5) ω (.int .i64 6) { S with st:=6 } (fj rfl rfl rfl rfl rfl rfl rfl rfl rfl rfl rfl rfl rfl rfl rfl rfl);have aE:ai (some (⟨g9,0,none⟩ :Addr))≠some g:=λe=>by have:=(X.2.lt e).1;have:=h7.cell.lt;simp at*;omega
  have an:=X.far (p:= ⟨g,5,none⟩) aE (.int .i64 6);have C:=wU h9 _ _ S.len _ _ an.rd (ag _) (ag _) ω kP (by show((S.most:Nat):Int)<=_;rw[q.out];exact jE);unfold mO at C;have bo:Hid ((N8 M.l D S.len).length=S.len):=zM _ _ _;rw[bo.out]at C;by_cases hz:t.rem<t.len
  · rw[ae (show S.most<S.len by rw[q.out,HLEN.out];exact hz)]at C;have Ke:=η C;have HZ:=η hz;clear C hz
    go_wp2_with fail;refine Ke.out.mono ?_;rintro e JI ⟨A8,n8,c8,rfl,N⟩
    go_wp2_with fail;go_ret;have G:t.step=({ t with x:=(t.x.drop n).drop LE,st:=6,aj:=t.aj++[cu.mk 0 t.len D],all:=t.all++(again t.all D t.len).take t.rem,rem:=t.rem-(again t.all D t.len).length },6):=r.out.trans (by rw[ae (by rw[cG];exact HZ.out)]);refine bf.bad (b:=(again t.all D t.len).take t.rem) G δ δ δ rfl (by rw[aA,cG];have:=HLEN.out;omega) (bz.fp z F.out N) f.err ?_;show M.out++(N8 M.l D S.len).take S.most=_;rw[q.out,HLEN.out,U6.out]
  rw[aa (show¬S.most<S.len by rw[q.out,HLEN.out];exact hz)]at C;have Ke:=η C;have HZ:=η hz;have bs:Hid ((again t.all D t.len).take t.rem=again t.all D t.len):=ay (by rw[cG];omega);clear C hz
  go_wp2_with fail;refine Ke.out.mono ?_;rintro e JI ⟨A8,n8,c8,rfl,N⟩
  go_wp2_with fail;go_ret;have G:t.step=({ t with x:=(t.x.drop n).drop LE,st:=6,aj:=t.aj++[cu.mk 0 t.len D],all:=t.all++(again t.all D t.len).take t.rem,rem:=t.rem-(again t.all D t.len).length },0):=r.out.trans (by rw[aa (by rw[cG];exact HZ.out)]);refine bf.go (b:=(again t.all D t.len).take t.rem) G rfl (by rw[aA,cG];have:=HLEN.out;omega) (bz.fp z F.out N) ⟨UU.out,rfl,f.last,f.left,f.c0,f.c1,f.c2,f.lens,λe=>by simp at e,λ_=>f.lt (.inr A.out),λ_=>f.ds (.inr A.out),λe=>by simp at e, ?_, ?_,f.err⟩ ?_
  · show ve (t.all++(again t.all D t.len).take t.rem) (zD M.l (N8 M.l D S.len));rw[bs.out,HLEN.out,U6.out];exact f.tail.add _
  · show S.most-S.len=t.rem-(again t.all D t.len).length;rw[q.out,HLEN.out,cG]
  show M.out++(N8 M.l D S.len).take S.most=_;rw[q.out,HLEN.out,U6.out]
end
section
variable {w w' w0 w2:World} {b0 g:Nat} {c c0:Nat->Nat} {M M':DM} {S S':DS} {s t t':IS} {b:List Int} {v:Int}
theorem Pg (h:s.st=8):s.step=(s,8):=by unfold IS.step;rw[aa ω,aa ω,aa ω,aa ω,aa ω,aa ω,aa ω,aa ω]
theorem Pl (h:bz w0 c0 w b0 g M S) (c:Live M S s) (hO:s.Ok) (want:Int) (m:1<=want) (f:want<=4611686018427387904) (j:M.out.length<=10000000000) (i:(s.rem:Int)<=4611686018427387904):
  Calls Tryz.prog 102 #[.pointer (some ⟨g,0,none⟩), .int .i64 want] w (bf w0 c0 b0 g M s):=by
 obtain⟨-, -, -, -, -,l, -⟩ :=h.cells;have n:=hO.st8;rw[c.st]at l;have k:s.st=0\/s.st=1\/s.st=2\/s.st=3\/s.st=4\/s.st=5\/s.st=6\/s.st=7\/s.st=8:=ω;clear n;rcases k with a | a | a | a | a | a | a | a | a
 all_goals
  rw[a]at l
 · have b:=η (KI h c hO a);clear a;go_enter Tryz.func102,Tryz.ntmps102
   go_wp2_with fail;refine b.out.mono ?_;rintro e w1 hp;obtain⟨_,_,_,v,_,rfl,_⟩ :=id hp
   go_wp2_with fail;go_ret;exact hp
 · have b:=η (Pj h c hO a);clear a;go_enter Tryz.func102,Tryz.ntmps102
   go_wp2_with fail;refine b.out.mono ?_;rintro e w1 hp;obtain⟨_,_,_,v,_,rfl,_⟩ :=id hp
   go_wp2_with fail;go_ret;exact hp
 · have b:=η (Hp h c hO a want m f j i);clear a;go_enter Tryz.func102,Tryz.ntmps102
   go_wp2_with fail;refine b.out.mono ?_;rintro e w1 hp;obtain⟨_,_,_,v,_,rfl,_⟩ :=id hp
   go_wp2_with fail;go_ret;exact hp
 · have b:=η (KP h c hO a);clear a;go_enter Tryz.func102,Tryz.ntmps102
   go_wp2_with fail;refine b.out.mono ?_;rintro e w1 hp;obtain⟨_,_,_,v,_,rfl,_⟩ :=id hp
   go_wp2_with fail;go_ret;exact hp
 · have b:=η (KL h c hO a);clear a;go_enter Tryz.func102,Tryz.ntmps102
   go_wp2_with fail;refine b.out.mono ?_;rintro e w1 hp;obtain⟨_,_,_,v,_,rfl,_⟩ :=id hp
   go_wp2_with fail;go_ret;exact hp
 · have b:=η (EH h c hO a);clear a;go_enter Tryz.func102,Tryz.ntmps102
   go_wp2_with fail;refine b.out.mono ?_;rintro e w1 hp;obtain⟨_,_,_,v,_,rfl,_⟩ :=id hp
   go_wp2_with fail;go_ret;exact hp
 · have b:=η (KQ h c hO a j i);clear a;go_enter Tryz.func102,Tryz.ntmps102
   go_wp2_with fail;refine b.out.mono ?_;rintro e w1 hp;obtain⟨_,_,_,v,_,rfl,_⟩ :=id hp
   go_wp2_with fail;go_ret;exact hp
 · have b:=η (Cq h c hO a j i);clear a;go_enter Tryz.func102,Tryz.ntmps102
   go_wp2_with fail;refine b.out.mono ?_;rintro e w1 hp;obtain⟨_,_,_,v,_,rfl,_⟩ :=id hp
   go_wp2_with fail;go_ret;exact hp
 have d:=η (Pg a);clear a;go_enter Tryz.func102,Tryz.ntmps102
 go_wp2_with fail;go_ret;exact⟨M,S,s,8,[],rfl,h,c.err,σ,σ,σ, .inr (.inr ⟨δ,δ,by rw[IS.ir (by rw[d.out];simp),d.out],λ_=>c⟩)⟩
end
end Go.Proofs.YtdhmnlpfhfmpfaaGreat
