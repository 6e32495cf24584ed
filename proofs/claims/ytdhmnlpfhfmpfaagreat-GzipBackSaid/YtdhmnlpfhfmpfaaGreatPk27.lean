/-
  part
-/
import Derived.Test.YtdhmnlpfhfmpfaaGreatInfE
import Derived.BigRegion
set_option linter.unusedVariables false
set_option maxRecDepth 100000
set_option maxHeartbeats 4000000
namespace Go.Proofs.YtdhmnlpfhfmpfaaGreat
open Go.RowKit
section
variable {w w' w0 w2:World} {b0 g:Nat} {c c0:Nat->Nat} {M M':DM} {S S':DS} {s t t':IS} {b:aj} {v:Int}
theorem bF.fo (a:jg w b0 g c M S) (hd:DE b0 w0 c0 w c) (h:bF w c w' b0 g M' S'):bF w0 c0 w' b0 g M' S':=by
 obtain⟨c',e,b⟩ :=h;exact⟨c',e,hd.step a.lo (λk d=>(a.cb k d).1) b.2.1 b.2.2⟩
theorem bF.restore (h:bF w0 c0 w b0 g M S) {a':Nat} (c:a'<=8*M.B.length):bF w0 c0 ((w.setCell ⟨M.gi,0,none⟩ (.slice M.Ai M.ni M.ci)).setCell ⟨M.gi,1,none⟩ (.int .i64 a')) b0 g { M with a:=a' } S:=by
 have b:=h.mC;refine h.moved (((bk.refl w (λk=>k=M.gi)).setCell (p:= ⟨M.gi,0,none⟩) (.inl rfl) _).setCell (p:= ⟨M.gi,1,none⟩) (.inl rfl) _) ⟨((b.cell.bK (i:=0) ω _).bK (i:=1) ω _).congr λi hi=> ?_,b.lo,(b.own.far (p:= ⟨M.gi,0,none⟩) b.apart _).far (p:= ⟨M.gi,1,none⟩) b.apart _,b.apart,b.jR,c⟩;obtain rfl | rfl:i=0\/i=1:=ω
 · rfl
 rfl
def jG (w0:World) (c0:Nat->Nat) (b0 g:Nat) (M:DM) (S:DS) (t:IS) (e:Ending) (w':World):Prop:=
 ∃M' v t',e= .returned (.int .i64 v)/\bF w0 c0 w' b0 g M' S/\M'.out=M.out/\t'.all=t.all/\
  ((v=0/\t.step=(t',0)/\t'.st=5/\Live M' S t')\/(v=5/\t.step.2=5/\t'=t/\Live M' S t)\/(v≠0/\v≠5/\v≠8/\t.step=(t',v)))
theorem jG.go (b:t.step=(t',0)) (h5:t'.st=5) (a:t'.all=t.all) (h:bF w0 c0 w' b0 g M' S) (d:Live M' S t') (c:M'.out=M.out):jG w0 c0 b0 g M S t (.returned (.int .i64 0)) w':=
 ⟨M',0,t',rfl,h,c,a, .inl ⟨rfl,b,h5,d⟩⟩
theorem jG.lack (a:t.step.2=5) (h:bF w0 c0 w' b0 g M' S) (c:Live M' S t) (b:M'.out=M.out):jG w0 c0 b0 g M S t (.returned (.int .i64 5)) w':=
 ⟨M',5,t,rfl,h,b,rfl, .inr (.inl ⟨rfl,a,rfl,c⟩)⟩
theorem jG.bad (b:t.step=(t',v)) (e:v≠0) (h5:v≠5) (d:v≠8) (a:t'.all=t.all) (h:bF w0 c0 w' b0 g M' S) (c:M'.out=M.out):jG w0 c0 b0 g M S t (.returned (.int .i64 v)) w':=
 ⟨M',v,t',rfl,h,c,a, .inr (.inr ⟨e,h5,d,b⟩)⟩
def a8N (w0:World) (c0:Nat->Nat) (b0 g:Nat) (M:DM) (S:DS) (n:Nat) (K:Int) (k:Nat) (i:Value) (wr:World):Prop:=
 ∃j A2 a c2,j<=n/\Hid (k=n-j)/\i= .int .i64 j/\bF w0 c0 wr b0 g { M with Al:=A2,nl:=a,cl:=c2,lens:=M.lens++List.replicate j K } S
theorem Hu (h:bF w0 c0 w b0 g M S) (b:Live M S t) (hO:t.Ok) (o:t.st=5) (ad:t.lens.length<t.c0+t.c1):
  Calls Tryz.prog 146 #[.pointer (some ⟨g,0,none⟩)] w (jG w0 c0 b0 g M S t):=by
 obtain⟨c,r,hD⟩ :=h;have C:Below w.heap.size w (w.alloc (.cells #[.slice M.Ai M.ni M.ci, .int .i64 (M.a:Nat)] 122)).drew:=((ax _ w).alloc (ai _) _).drew;have D:=r.keeps C;have R:=hD.step (c':=c) r.lo (λk hk=>(r.cb k hk).1) (bk.bJ C) (λ_ _=>rfl);have h1:=D.refl;obtain⟨t0,B,gt,hp,IP,yq,oY,dA⟩ :=h1.b1i (b.hd o)
 have pX:c w.heap.size=0:=by
  by_cases e:c w.heap.size=0
  · exact e
  have:=(r.cb _ e).2;omega
 have bx:M.gi<w.heap.size:=r.mC.cell.lt;have oX:g<w.heap.size:=r.cell.lt;have J:=ye _ t0 B gt b0 M.gi M.ni M.ci M.a M.Ai t.hd M.B IP oY D.mC (aw r.bB ω) yq dA;rw[show lM=lM from rfl]at J;unfold lM at J;have hb:=b.x;rw[hb]at J;have d:Hid (t.step=t.length):=J1 o ad;unfold IS.length at d;obtain⟨i0,hi,ab,Z,Y⟩ :=aL mQ;have Hi:=η hi;have i7:=η ab;have gp:=η Z;have i9:=η Y;clear hi ab Z Y;obtain⟨K,hK⟩ :=ν ((aK t.hd t.x).1);obtain⟨n,hn⟩ :=ν ((aK t.hd t.x).2.1);obtain⟨E,hE⟩ :=ν ((aK t.hd t.x).2.2);have q:Hid (E≠0->n=0):=λh=>by rw[<-hn];exact(sS (by rw[hE];exact h)).2
 have gY:Hid (E=0\/E=3\/E=5):=by have:=eU t.hd t.x;rw[hE]at this;exact this
 have oM:Hid (E=0->0<=K/\K<19/\n<=t.x.length):=λh=>by
  obtain⟨k2,X,e1,e2,e3,e4,e5⟩ :=mi (l:=t.hd) (x:=t.x) hO.bit (by rw[hE,h];simp);have:=(hO.h5 o).2.2.2;rw[e1]at hK hn;simp at hK hn;omega
 rw[hK,hn,hE]at J d;have qs:=η J;have LY:=r.cell.cell (i:=12) ω;rw[show dF M S 12= .pointer (some ⟨gt,0,none⟩) from aN Value.pointer hp]at LY;have k0:=r.cell.cell (i:=0) ω;rw[show dF M S 0= .pointer (some ⟨M.gi,0,none⟩) from rfl]at k0;have r0:=r.mC.cell.cell (i:=0) ω;have r1:=r.mC.cell.cell (i:=1) ω;rw[show rf M.Ai M.ni M.ci M.a 0= .slice M.Ai M.ni M.ci from rfl]at r0;rw[show rf M.Ai M.ni M.ci M.a 1= .int .i64 (M.a:Nat) from rfl]at r1;obtain⟨ac,be,aE,ap⟩ :=hO.h5 o;have bp:=hO.cc (.inr o);have fz:=r.lens.1;rw[b.lens]at fz;have bs:(0:Int)<=M.nl/\(M.nl:Int)<=316/\(0:Int)<=S.c0/\(S.c0:Int)<=286/\(0:Int)<=S.c1/\(S.c1:Int)<=30:=by have:=b.c0;have:=b.c1;omega
 have uo:=η fz;have HB:=η hb;have cd:=η hp;have f:=η o;have Kq:=η pX;have ca:=η ac;clear J hK hn hE hp hb fz o IP yq oY dA h1 pX be ap aE bp ac ad C;go_enter Tryz.func146,Tryz.ntmps146
 go_wp2_with fail;go_cut [4,5] (λs4 s5 wx=>s4= .int .i64 K/\s5= .int .i64 E/\qu wx b0 M.gi M.Ai M.ni M.ci M.B (M.a+n)/\bk (w.alloc (.cells #[.slice M.Ai M.ni M.ci, .int .i64 (M.a:Nat)] 122)).drew wx (λk=>k=M.gi))
 case first=>
  go_region_law
   ((go_simp;go_at_call 147;(refine qs.out.mono ?_))
    rintro e w5 ⟨rfl,rL,nT⟩)
  all_goals
   go_wp2_with fail;go_meet;exact⟨rfl,rfl,rL,nT⟩
 obtain⟨rfl,rfl,rL,nT⟩ :=hcut;have h5:=D.refl.moved nT rL;have sK:Hid (rb M.B (M.a+n)=t.x.drop n):=by show _=_;rw[<-kU,HB.out]
 clear rL;by_cases nS:E=0
 rotate_left
 · have Gx:(E==0)=false:=by simpa using nS
   have L:=q.out nS;have u:=η (d.out.trans (af nS));have bo:=η (gY.out.resolve_left nS);clear q gY oM d qs;subst L;have h6:=bF.fo D R h5
   go_wp2_with fail;go_ret;rcases bo.out with he | he
   · subst he;exact jG.bad u.out δ δ δ rfl h6 rfl
   subst he;exact jG.lack (by rw[u.out]) h6 b rfl
 subst nS;obtain⟨Ih,ZB,J⟩ :=oM.out rfl;have jl:=η (d.out.trans (aa δ));clear q gY oM d qs;by_cases F0:K<16
 · have u:=η (jl.out.trans (af F0));clear jl;obtain⟨-, -, -, -, -, -, -, -, -, -, -,v, -⟩ :=h5.cells;have jb:=h5.lens.alloc (.cells #[.int .i64 K] 3);have C:=h5.lo
   go_wp2_with (at_builtin;(refine bq .i64 b0 3 i0 8 rfl (.tmp 35) (.tmp 37) _ rfl Tryz.underlying63 Hi.out i7.out gp.out i9.out rfl jb rfl (bT.lit .i64 wc [K] 3) (by show M.nl+1<=_;omega) ω ξ ?_)
                intro A4 d4 w4 bL A dT;have iL:=(h5.cell.alloc (.cells #[.int .i64 K] 3)).grown A (λe=>h5.apart.2.1 e.symm);have al:=iL.cell (i:=11) ω;have ah:=iL.frozen' (i:=11) ω)
   have h6:=bF.fo D R (h5.push K A bL dT);go_ret;exact jG.go u.out f.out rfl h6 ⟨sK.out,b.st,b.last,b.left,b.c0,b.c1,b.c2,by show M.lens++[K]=t.lens++[K];rw[b.lens],λ_=>b.hd f.out,λe=>by simp [f.out]at e,λe=>by simp [f.out]at e,λe=>by simp [f.out]at e,b.tail,b.rem,b.err⟩ rfl
 have kz:=η (jl.out.trans (aa F0));clear jl;have m:K=16\/K=17\/K=18:=ω;obtain⟨-, -, -, -, -, -, -, -, -, -, -,v, -⟩ :=h5.cells;obtain⟨Bd,K7⟩ :=ν (decide (K=16/\t.lens.length=0));have G:=η K7;clear K7;go_upto_region 8 with fail
 go_cut [50] (λs wx=>s= .bool Bd/\wx=wc)
 case first=>
  by_cases U:K=16
  · by_cases L:M.nl=0
    · have hd:Hid (true=Bd):=by show _=_;rw[<-G.out];exact(aS ⟨U,by rw[<-uo.out];exact L⟩).symm
      have b2W:wc.cell? ⟨g,11,none⟩ =some (.slice M.Al 0 M.cl):=by rw[<-L];exact v
      clear v L G;subst U
      go_wp2_with fail;go_meet;exact⟨aN Value.bool hd.out,rfl⟩
    have hd:Hid (false=Bd):=by show _=_;rw[<-G.out];exact(aQ λh=>L (by rw[uo.out];exact h.2)).symm
    have Sr:((M.nl:Int)==0)=false:=ξ;clear L G;subst U
    go_wp2_with fail;go_meet;exact⟨aN Value.bool hd.out,rfl⟩
  have hd:Hid (false=Bd):=by show _=_;rw[<-G.out];exact(aQ λh=>U h.1).symm
  have bl:(K==16)=false:=by simpa using U
  clear U G
  go_wp2_with fail;go_meet;exact⟨aN Value.bool hd.out,rfl⟩
 obtain⟨rfl,rfl⟩ :=hcut;by_cases Q:K=16/\t.lens.length=0
 · have u:=η (kz.out.trans (af Q));rw[<-G.out,aS Q];have h6:=bF.fo D R h5;clear Q kz m F0
   go_wp2_with fail;go_ret;exact jG.bad u.out δ δ δ rfl h6 rfl
 have l7:=η (kz.out.trans (aa Q));rw[<-G.out,aQ Q];have vY:K=16->0<M.nl:=λh=>by have:=uo.out;omega
 clear kz Q;by_cases z:(t.x.drop n).length<IS.rW K
 · have u:=η (l7.out.trans (af z));have y:=PI h5 K m (by rw[show({ M with a:=M.a+n }:DM).B=M.B from rfl,show({ M with a:=M.a+n }:DM).a=M.a+n from rfl,sK.out];exact z);have P:=η y;clear y z l7 vY m
   go_wp2_with fail;refine P.out.mono ?_;rintro e V ⟨rfl,h6⟩;obtain⟨c6,ae,O⟩ :=h6;have H:∀i,V.cell? ⟨w.heap.size,i,none⟩ =(w.alloc (.cells #[.slice M.Ai M.ni M.ci, .int .i64 (M.a:Nat)] 122)).drew.cell? ⟨w.heap.size,i,none⟩ :=λi=>O.2.1.cell (p:= ⟨w.heap.size,i,none⟩) σ (λe=>e Kq.out);have x0:V.cell? ⟨w.heap.size,0,none⟩ =some (.slice M.Ai M.ni M.ci):=by rw[H 0];simp
   have x1:V.cell? ⟨w.heap.size,1,none⟩ =some (.int .i64 (M.a:Nat)):=by rw[H 1];simp
   have h6:bF _ c V b0 g { M with a:=M.a+n } S:= ⟨c6,ae,O⟩;have j0:=h6.cell.cell (i:=0) ω;rw[show dF { M with a:=M.a+n } S 0= .pointer (some ⟨M.gi,0,none⟩) from rfl]at j0;have s0:=h6.mC.cell.cell (i:=0) ω;have s1:=h6.mC.cell.cell (i:=1) ω;have z0:=h6.mC.cell.frozen' (i:=0) ω;have z1:=h6.mC.cell.frozen' (i:=1) ω;have h7:=bF.fo D R (h6.restore (a':=M.a) r.mC.le);clear H ae O
   go_wp2_with fail;go_region
   all_goals
    go_wp2_with fail;go_ret;exact jG.lack (by rw[u.out]) h7.drew b rfl
 have I:=η (l7.out.trans (aa z));unfold IS.kG at I;have qO:=gI (hO.bit.ed n) (IS.rW K);have Yd:2 ^ IS.rW K<=2 ^ 7:=bC ω (by rcases m with rfl | rfl | rfl <;> decide);have Vx:IS.rB K<=11:=by rcases m with rfl | rfl | rfl <;> decide
 obtain⟨F,N⟩ :∃F:Int,F=if K=16 then ix t.lens (t.lens.length-1)else 0:= ⟨_,rfl⟩;have uH:rb ({ M with a:=M.a+n }:DM).B ({ M with a:=M.a+n }:DM).a=t.x.drop n:=sK.out;obtain⟨T,hT⟩ :=ν (IS.rB K+num (t.x.drop n) (IS.rW K));have y:=Z3 h5 K m (by rw[uH];omega) vY (by show M.nl<=1000;omega) (T:Int) F (by rw[uH,hT]) (by rw[N];show _=if K=16 then ix M.lens (M.lens.length-1)else 0;rw[b.lens]);rw[hT]at I;rw[<-N]at I;have bI:(0:Int)<=T/\(T:Int)<=200:=ω;have P:=η y;have Vy:Hid (rb M.B (M.a+n+IS.rW K)=(t.x.drop n).drop (IS.rW K)):=by show _=_;rw[<-kU,sK.out]
 have ao:IntKind.i64.wrap ((M.nl:Int)+(T:Int))=(M.nl:Int)+(T:Int):=aM _ ω;have an:IntKind.i64.wrap ((S.c0:Int)+(S.c1:Int))=(S.c0:Int)+(S.c1:Int):=aM _ ω;have Ix:Hid ((S.c0:Int)+(S.c1:Int)<(M.nl:Int)+(T:Int)↔t.c0+t.c1<t.lens.length+T):=by show _↔_;rw[<-b.c0,<-b.c1,<-uo.out];omega
 clear qO Yd Vx hT y z l7 vY N uH v;generalize IS.rW K=W at*;have bl:K=16\/K=17\/K=18:=m;clear m
 go_wp2_with fail;refine P.out.mono ?_;rintro e V ⟨rfl,h6⟩;obtain⟨-, -, -, -, -, -, -, -,j8,j9, -,am, -⟩ :=h6.cells;by_cases lF:(S.c0:Int)+(S.c1:Int)<(M.nl:Int)+(T:Int)
 · have u:=η (I.out.trans (af (Ix.out.1 lF)));have h7:=bF.fo D R h6.drew;clear I Ix
   go_wp2_with fail;go_region
   all_goals
    go_wp2_with fail;go_ret;exact jG.bad u.out δ δ δ rfl h7 rfl
 have u:=η (I.out.trans (aa (λh=>lF (Ix.out.2 h))));clear I Ix
 go_wp2_with fail;go_region
 all_goals
  go_wp2_with fail;go_loopg [89] T (a8N (w.alloc (.cells #[.slice M.Ai M.ni M.ci, .int .i64 (M.a:Nat)] 122)).drew c b0 g { M with a:=M.a+n+W } S T F)
  case atStart=>exact⟨0,M.Al,M.nl,M.cl,aF _,rfl,rfl,by rw[List.replicate_zero,aA];exact h6.drew⟩
  clear h6 ao an j8 j9 am;obtain⟨j,A2,X,c2,hj,hk,rfl,h6⟩ :=hrel;by_cases bv:(j:Int)<(T:Int)
  rotate_left
  · obtain rfl:j=T:=ω;have h7:=bF.fo D R h6
    go_wp2_with fail;go_ret;exact jG.go u.out f.out rfl h7 ⟨Vy.out,b.st,b.last,b.left,b.c0,b.c1,b.c2,by show M.lens++List.replicate _ _=t.lens++List.replicate _ _;rw[b.lens],λ_=>b.hd f.out,λe=>by simp [f.out]at e,λe=>by simp [f.out]at e,λe=>by simp [f.out]at e,b.tail,b.rem,b.err⟩ rfl
  obtain⟨-, -, -, -, -, -, -, -, -, -, -,v, -⟩ :=h6.cells;have jb:=h6.lens.alloc (.cells #[.int .i64 F] 3);have C:=h6.lo;have oA:X=(M.lens++List.replicate j F).length:=h6.lens.1;rw[ag,aT,<-r.lens.1]at oA;have bi:X+1<=1000000000000:=ω;have bt:(0:Int)<=X:=ω;clear oA
  go_wp2_with (at_builtin;(refine bq .i64 b0 3 i0 8 rfl (.tmp 95) (.tmp 97) _ rfl Tryz.underlying63 Hi.out i7.out gp.out i9.out rfl jb rfl (bT.lit .i64 wr [F] 3) bi ω ξ ?_)
               intro A4 d4 w4 bL A dT;have iL:=(h6.cell.alloc (.cells #[.int .i64 F] 3)).grown A (λe=>h6.apart.2.1 e.symm);have al:=iL.cell (i:=11) ω;have ah:=iL.frozen' (i:=11) ω)
  have h7:=h6.push F A bL dT;go_roundg (gk-1)
  case measure=>have:=hk.out;omega
  refine⟨j+1,A4,X+1,d4,ω,by show gk-1=_;have:=hk.out;omega,by go_num, ?_⟩;rw[List.replicate_succ',<-av];exact h7
end
section
variable {w w' w0 w2:World} {b0 g:Nat} {c c0:Nat->Nat} {M M':DM} {S S':DS} {s t t':IS} {b:aj} {v:Int}
theorem bF.a2z (h:bF w0 c0 w b0 g M S):bF w0 c0 (w.setCell ⟨g,13,none⟩ (.pointer none)) b0 g { M with lp:=none,lt:=none } S/\bF w0 c0 (w.setCell ⟨g,14,none⟩ (.pointer none)) b0 g { M with dp:=none,ds:=none } S:=by
 obtain⟨c,a,hd⟩ :=h;have m:ak M.Ao≠some g:=λe=>by have:=a.co g e;have:=a.cg;omega
 have s:ak M.Al≠some g:=λe=>by have:=a.cl g e;have:=a.cg;omega
 have ze:∀(i:Nat) (v:Value) (M':DM),i<16->(∀j,j<16->upd (dF M S) i v j=dF M' S j)->M'={ M with hp:=M'.hp,lp:=M'.lp,dp:=M'.dp,hd:=M'.hd,lt:=M'.lt,ds:=M'.ds }->
   (∀l,M'.hd=some l->l9 w b0 c M'.hp l)->(∀l,M'.lt=some l->l9 w b0 c M'.lp l)->(∀l,M'.ds=some l->l9 w b0 c M'.dp l)->bF w0 c0 (w.setCell ⟨g,i,none⟩ v) b0 g M' S:=by
  intro i v M' hi hF t r o n;have d:bk w (w.setCell ⟨g,i,none⟩ v) (λk=>k=g):=(bk.refl w (λk=>k=g)).setCell (p:= ⟨g,i,none⟩) (.inl rfl) v;have f:∀{p l},l9 w b0 c p l->l9 (w.setCell ⟨g,i,none⟩ v) b0 c p l:=λht=>ht.fC d (λk b=>by subst b;rw[a.cg];decide) λ_ _=>rfl
  refine⟨c, ⟨(a.cell.bK hi v).congr hF,a.cg, ?_, ?_, ?_, ?_, ?_, ?_, ?_, ?_,λl q=>f (r l q),λl q=>f (o l q),λl q=>f (n l q),λk b=> ⟨(a.cb k b).1,aB (a.cb k b).2 d.size⟩, ?_⟩,
   hd.step a.lo (λk b=>(a.cb k b).1) (d.more λk b=>by subst b;rw[a.cg];decide) λ_ _=>rfl⟩
  all_goals rw[t]
  · exact a.mC.fC d (λk b e=>by have:=a.cr k b;have:=a.cg;subst e;omega)
  · exact a.cr
  · exact a.Gj.fC d (λk b e=>by have:=a.cw k b;have:=a.cg;subst e;omega)
  · exact a.cw
  · exact d.dX a.out (λk b e=>by subst e;exact m b)
  · exact a.co
  · exact d.dX a.lens (λk b e=>by subst e;exact s b)
  · exact a.cl
  exact a.bB
 exact⟨ze 13 _ _ ω (fg rfl rfl rfl rfl rfl rfl rfl rfl rfl rfl rfl rfl rfl rfl rfl rfl) rfl a.th (λl q=>by simp at q) a.td,ze 14 _ _ ω (fg rfl rfl rfl rfl rfl rfl rfl rfl rfl rfl rfl rfl rfl rfl rfl rfl) rfl a.th a.tl (λl q=>by simp at q)⟩
def Nf (w w':World) (l:aj) (most:Int) (p:ay):Prop:=
 Below w.heap.size w w'/\((bg l most=0/\∃g,p=some ⟨g,0,none⟩/\yR w' w.heap.size w'.heap.size g l)\/(bg l most≠0/\p=none))
theorem CZ (w:World) (A:ay) (n c B:Nat) (l:aj) (most:Int) (a:bT .i64 w B A n l) (f:B<=w.heap.size) (b:n<=288) (E:Int) (hE:bg l most=E):
  Calls Tryz.prog 110 #[.slice A n c, .int .i64 most] w λe w'=>∃p,e= .returned (.tuple #[.pointer p, .int .i64 E])/\Nf w w' l most p:=by
 subst hE;by_cases h:bg l most=0
 · refine(oo w A n c B l most a f b h).mono ?_;rintro e w' ⟨g,rfl,ht,d⟩;exact⟨_,by rw[h],d, .inl ⟨h,g,rfl,ht⟩⟩
 refine(Ho w A n c B l most a ω h).mono ?_;rintro e w' ⟨rfl,rfl⟩;exact⟨_,rfl,ax _ _, .inr ⟨h,rfl⟩⟩
theorem bF.a8k (h:bF w0 c0 w b0 g M S) {l:aj} {p:ay} {most:Int} (ht:Nf w w' l most p) (f:l.length<=288):
  (∃o,(bg l most=0->o=some l)/\bF w0 c0 (w'.setCell ⟨g,13,none⟩ (.pointer p)) b0 g { M with lp:=p,lt:=o } S)/\
  (∃o,(bg l most=0->o=some l)/\bF w0 c0 (w'.setCell ⟨g,14,none⟩ (.pointer p)) b0 g { M with dp:=p,ds:=o } S):=by
 obtain⟨d, ⟨c,j,rfl,i⟩ | ⟨c,rfl⟩⟩ :=ht
 · obtain⟨-,a,b⟩ :=h.a0O d i f;exact⟨⟨_,λ_=>rfl,a⟩, ⟨_,λ_=>rfl,b⟩⟩
 obtain⟨a,b⟩ :=(h.keeps d).a2z;exact⟨⟨_,λe=>absurd e c,a⟩, ⟨_,λe=>absurd e c,b⟩⟩
def a5d (w0:World) (c0:Nat->Nat) (b0 g:Nat) (M:DM) (S:DS) (s:IS) (k:Nat) (wr:World):Prop:=
 ∃M' t,bF w0 c0 wr b0 g M' S/\IS.Steps s t/\Live M' S t/\t.Ok/\t.st=5/\M'.out=M.out/\t.all=s.all/\Hid (k=t.mu)/\Hid (t.mu<=s.mu)
def a1g (w0:World) (c0:Nat->Nat) (b0 g:Nat) (M:DM) (S:DS) (l:aj) (wx:World):Prop:=∃p o,(bg l 15=0->o=some l)/\bF w0 c0 wx b0 g { M with lp:=p,lt:=o } S
def a1h (w0:World) (c0:Nat->Nat) (b0 g:Nat) (M:DM) (S:DS) (l:aj) (wx:World):Prop:=∃p o,(bg l 15=0->o=some l)/\bF w0 c0 wx b0 g { M with dp:=p,ds:=o } S
theorem EJ (h:bF w0 c0 w b0 g M S) (c:Live M S s) (hO:s.Ok) (d:s.st=5):
  Calls Tryz.prog 127 #[.pointer (some ⟨g,0,none⟩)] w (bh w0 c0 b0 g M s):=by
 obtain⟨i0,hi,K,J,I⟩ :=aL mQ;have Hi:=η hi;have i7:=η K;have gp:=η J;have i9:=η I;clear hi K J I;go_enter Tryz.func127,Tryz.ntmps127;go_wp2;go_loopg [] s.mu (a5d w0 c0 b0 g M S s)
 case atStart=>exact⟨M,s,h, .refl s,c,hO,d,rfl,rfl,rfl,ai _⟩
 clear h c hO d;obtain⟨a,t,h,U,c,hO,d,V,f,hk,Y⟩ :=hrel;obtain⟨T,R,Q,O⟩ :=hO.h5 d;have ab:=hO.cc (.inr d);obtain⟨-, -, -, -, -, -, -, -,k8,k9, -,G, -⟩ :=h.cells;have fz:=h.lens.1;rw[c.lens]at fz;have F8:(0:Int)<=a.nl/\(a.nl:Int)<=316/\(257:Int)<=S.c0/\(S.c0:Int)<=286/\(1:Int)<=S.c1/\(S.c1:Int)<=30/\(a.nl:Int)<=(S.c0:Int)+(S.c1:Int):=by have:=c.c0;have:=c.c1;omega
 have n:=η c.c0;have Ev:=η c.c1;have uo:=η fz;have bs:=η d;have bl:IntKind.i64.wrap ((S.c0:Int)+(S.c1:Int))=(S.c0:Int)+(S.c1:Int):=aM _ ω;by_cases bo:(a.nl:Int)<(S.c0:Int)+(S.c1:Int)
 · have lI:=Hu h.drew c hO d (by have:=n.out;have:=Ev.out;have:=uo.out;omega);have Gs:=η lI;clear lI fz d T R Q O ab
   go_wp2_with fail;go_region
   all_goals
    go_wp2_with fail;refine Gs.out.mono ?_;rintro e w1 ⟨M2,v,t2,rfl,q,y,Io,am⟩;rcases am with ⟨rfl,b,z,C⟩ | ⟨rfl,b,rfl,C⟩ | ⟨N,ah,ae,b⟩
    · have D:=η b;have T7:=η z;have m:=η y;have ub:=η Io;have vr:Hid (t2.mu<t.mu):=by have:=IS.jK (s:=t) (by rw[b]);rw[b]at this;exact this
      clear b z y Io
      go_wp2_with fail;go_roundg t2.mu
      case measure=>have:=hk.out;have:=vr.out;omega
      have xy:=hO.step (.inl (by rw[D.out]));have l7:=IS.Steps.tail U (by rw[D.out]);rw[D.out]at xy l7;exact⟨M2,t2,q,l7,C,xy,T7.out,m.out.trans V,ub.out.trans f,rfl,aw (dh vr.out) Y.out⟩
    · have D:=η b;have m:=η y;clear b y Io
      go_wp2_with fail;go_ret;exact bh.after U Y.out f V (bh.lack D.out q C m.out)
    have D:=η b;have m:=η y;have ub:=η Io;have bi:(v==0)=false:=by simpa using N
    clear b y Io
    go_wp2_with fail;go_ret;exact bh.after U Y.out f V (bh.vD D.out N ah ae ub.out q c.err m.out)
 have jE:¬t.lens.length<t.c0+t.c1:=by have:=n.out;have:=Ev.out;have:=uo.out;omega
 have A:=η (J6 d jE);have fI:=h.lens.2.jT;have X:a.nl=S.c0+S.c1:=ω;obtain⟨F,Gx⟩ :=ν (bg (t.lens.take t.c0) 15);obtain⟨E,yT⟩ :=ν (bg (t.lens.drop t.c0) 15);have QE:=dQ (P:=Tryz.prog) 63 3 Tryz.underlying63 Hi.out gp.out a.Al a.nl a.cl (j:=S.c0) ω;have Fq:=cZ (P:=Tryz.prog) 63 3 Tryz.underlying63 Hi.out gp.out a.Al a.nl a.cl (j:=S.c0) ω
 have N7:Hid (∀W,ba .i64 W b0 3 a.Al a.nl a.cl a.lens->Calls Tryz.prog 110 #[.slice a.Al S.c0 a.cl, .int .i64 15] W λe w'=>∃p,e= .returned (.tuple #[.pointer p, .int .i64 F])/\Nf W w' (t.lens.take t.c0) 15 p):=λW hW=>by
  rw[<-n.out,<-c.lens];exact CZ W a.Al S.c0 a.cl _ _ 15 (hW.rd.pre ω) (ai _) ω F (by rw[n.out,c.lens];exact Gx)
 have CT:Hid (∀W,ba .i64 W b0 3 a.Al a.nl a.cl a.lens->Calls Tryz.prog 110 #[.slice (dr a.Al a.cl S.c0) (a.nl-S.c0) (a.cl-S.c0), .int .i64 15] W λe w'=>∃p,e= .returned (.tuple #[.pointer p, .int .i64 E])/\Nf W w' (t.lens.drop t.c0) 15 p):=λW hW=>by
  rw[<-n.out,<-c.lens];exact CZ W (dr a.Al a.cl S.c0) (a.nl-S.c0) (a.cl-S.c0) _ _ 15 (hW.rd.dr ω fI) (ai _) ω E (by rw[n.out,c.lens];exact yT)
 have N8:=η Gx;have RQ:=η yT
 have Z:Hid ((t.lens.take t.c0).length<=288/\(t.lens.drop t.c0).length<=288):=by
  show _/\_;rw[aD,az];have:=n.out;have:=Ev.out;have:=uo.out;omega
 have b1v:=η fI;have b1A:=η X;have x6:(256:Int)<(a.nl:Int):=ω;clear Gx yT fI X jE d T R Q O ab fz;have hd:=h.drew
 go_wp2_with fail;go_region
 all_goals
  go_wp2_with fail;go_cut [4] (λs4 wx=>s4= .int .i64 F/\a1g w0 c0 b0 g a S (t.lens.take t.c0) wx)
  case first=>
   go_region_law
    ((go_simp;go_at_call 110;(refine(N7.out _ (by first | exact h.drew.drew.lens | exact h.drew.lens | exact(h.drewN _).lens)).mono ?_))
     rintro e w5 ⟨p,rfl,hT⟩;have u:=bF.keeps (by first | exact h.drew.drew | exact h.drew | exact h.drewN _) hT.1;have ap:=u.cell.frozen' (i:=13) ω;have be:=u.cell.cell (i:=13) ω)
   all_goals
    have cu:a1g w0 c0 b0 g a S (t.lens.take t.c0) (w5.setCell ⟨g,13,none⟩ (.pointer p)):=by
     obtain⟨⟨o,l,q⟩, -⟩ :=bF.a8k (by first | exact h.drew.drew | exact h.drew | exact h.drewN _) hT Z.out.1;exact⟨p,o,l,q⟩
    go_wp2_with fail;go_meet;exact⟨rfl,cu⟩
  obtain⟨rfl,p1,o1,pZ,l⟩ :=hcut;have an:=η pZ;clear pZ k8 k9 G hd;obtain⟨-, -, -, -, -, -, -, -,k8,k9, -,G, -⟩ :=l.cells
  go_wp2_with fail;go_cut [5] (λs5 wx=>s5= .int .i64 E/\a1h w0 c0 b0 g { a with lp:=p1,lt:=o1 } S (t.lens.drop t.c0) wx)
  case first=>
   go_region_law
    ((go_simp;go_at_call 110;(refine(CT.out _ (by first | exact l.lens | exact l.drew.lens | exact(l.drewN _).lens)).mono ?_))
     rintro e w5 ⟨p,rfl,hT⟩;have u:=bF.keeps (by first | exact l | exact l.drew | exact l.drewN _) hT.1;have ao:=u.cell.frozen' (i:=14) ω;have aE:=u.cell.cell (i:=14) ω)
   all_goals
    have cu:a1h w0 c0 b0 g { a with lp:=p1,lt:=o1 } S (t.lens.drop t.c0) (w5.setCell ⟨g,14,none⟩ (.pointer p)):=by
     obtain⟨-, ⟨o,l,q⟩⟩ :=bF.a8k (by first | exact l | exact l.drew | exact l.drewN _) hT Z.out.2;exact⟨p,o,l,q⟩
    go_wp2_with fail;go_meet;exact⟨rfl,cu⟩
  obtain⟨rfl,p2,o2,y,q⟩ :=hcut;have m:=η y;clear y k8 k9 G;obtain⟨-, -, -, -, -,k5, -, -, -, -, -,G, -⟩ :=q.cells;have z5:=q.cell.frozen' (i:=5) ω;obtain⟨ad,hA,bp,KI⟩ :=q.lens.rd.at_ (i:=256) (by show 256<a.nl;omega);have rS:a.Al=some ad:=hA;obtain⟨x,hx⟩ :=ν (ix a.lens 256);have a5r:wc.cell? ⟨ad.block,ad.off+256,none⟩ =some (.int .i64 x):=by rw[<-hx,<-GY ad (k:=256) ω];exact KI
  have ac:Hid (ix t.lens 256=x):=by show _=_;rw[<-c.lens];exact hx
  have b2Y:wc.cell? ⟨g,11,none⟩ =some (.slice (some ad) a.nl a.cl):=by rw[<-rS];exact G
  obtain⟨Bd,K7⟩ :=ν (decide (F≠0\/E≠0\/x=0));have r:=η K7;have HA:=η rS;have h3:bF w0 c0 wc b0 g { a with lp:=p1,lt:=o1,dp:=p2,ds:=o2 } S:=q;clear K7 hA rS hx KI G l q;go_upto_region 8 with fail
  go_cut [76] (λs wx=>s= .bool Bd/\wx=wc)
  case first=>
   by_cases H:F=0
   rotate_left
   · have hd:Hid (true=Bd):=by show _=_;rw[<-r.out];exact(aS (.inl H)).symm
     have L:(F==0)=false:=by simpa using H
     clear r
     go_wp2_with fail;go_meet;exact⟨aN Value.bool hd.out,rfl⟩
   by_cases e2:E=0
   · by_cases e3:x=0
     · have hd:Hid (true=Bd):=by show _=_;rw[<-r.out];exact(aS (.inr (.inr e3))).symm
       clear r;subst H e2 e3
       go_wp2_with fail;go_meet;exact⟨aN Value.bool hd.out,rfl⟩
     have hd:Hid (false=Bd):=by show _=_;rw[<-r.out];exact(aQ (λh=>by rcases h with h | h | h;exact h H;exact h e2;exact e3 h)).symm
     have L:(x==0)=false:=by simpa using e3
     clear r;subst H e2
     go_wp2_with fail;go_meet;exact⟨aN Value.bool hd.out,rfl⟩
   have hd:Hid (true=Bd):=by show _=_;rw[<-r.out];exact(aS (.inr (.inl e2))).symm
   have L:(E==0)=false:=by simpa using e2
   clear r;subst H
   go_wp2_with fail;go_meet;exact⟨aN Value.bool hd.out,rfl⟩
  obtain⟨rfl,rfl⟩ :=hcut;have z:=η A.out;rw[N8.out,RQ.out,ac.out]at z;clear A;by_cases B:F≠0\/E≠0\/x=0
  · have b:=η (z.out.trans (af B));rw[<-r.out,aS B];clear B z r
    go_wp2_with fail;go_ret;exact bh.after U Y.out f V (bh.vD b.out δ δ δ rfl h3 c.err rfl)
  have b:=η (z.out.trans (aa B));have yX:=η (an.out (by rw[N8.out];exact bN.1 λh=>B (.inl h)));have al:=η (m.out (by rw[RQ.out];exact bN.1 λh=>B (.inr (.inl h))));rw[<-r.out,aQ B];have h4:=h3.put (i:=5) ω (.int .i64 6) { S with st:=6 } (fg rfl rfl rfl rfl rfl rfl rfl rfl rfl rfl rfl rfl rfl rfl rfl rfl);clear B z r
  go_wp2_with fail;go_ret;exact bh.after U Y.out f V (bh.Uc b.out rfl h4 ⟨c.x,rfl,c.last,c.left,c.c0,c.c1,c.c2,c.lens,λe=>by simp at e,λ_=>yX.out,λ_=>al.out,λe=>by simp at e,c.tail,c.rem,c.err⟩ rfl)
end
section
variable {w w' w0 w2:World} {b0 g:Nat} {c c0:Nat->Nat} {M M':DM} {S S':DS} {s t t':IS} {b:aj} {v:Int}
theorem yi (h:bF w0 c0 w b0 g M S) (j:Nat) (x:j<=8*M.B.length) (B:Int) (N:Nat) (t:(rb M.B M.a).length<N):
  Calls Tryz.prog 148 #[.pointer (some ⟨g,0,none⟩), .agg #[.slice M.Ai M.ni M.ci, .int .i64 j], .int .i64 B, .int .i64 N] w λe w'=>e= .returned (.tuple #[.int .i64 0, .int .i64 5])/\bF w0 c0 w' b0 g { M with a:=j } S:=by
 obtain⟨c,l,hD⟩ :=h;have d:Below w.heap.size w (w.alloc (.cells #[.slice M.Ai M.ni M.ci, .int .i64 (j:Nat)] 122)):=((ax _ w).alloc (ai _) _);have r:=l.keeps d;have y:=hD.step (c':=c) l.lo (λk u=>(l.cb k u).1) (bk.bJ d) (λ_ _=>rfl)
 have o:c w.heap.size=0:=by
  by_cases e:c w.heap.size=0
  · exact e
  have:=(l.cb _ e).2;omega
 have v:M.gi<w.heap.size:=l.mC.cell.lt;have H:g<w.heap.size:=l.cell.lt;have A:=η o;have q:=ov r.refl N (.inr (.inr ω));have a2i:=η q;clear o q t d;go_enter Tryz.func148,Tryz.ntmps148
 go_wp2_with fail;refine a2i.out.mono ?_;rintro e n ⟨rfl,h6⟩;obtain⟨z,m,f⟩ :=h6;have b:∀i,n.cell? ⟨w.heap.size,i,none⟩ =(w.alloc (.cells #[.slice M.Ai M.ni M.ci, .int .i64 (j:Nat)] 122)).cell? ⟨w.heap.size,i,none⟩ :=λi=>f.2.1.cell (p:= ⟨w.heap.size,i,none⟩) σ (λe=>e A.out);have F:n.cell? ⟨w.heap.size,0,none⟩ =some (.slice M.Ai M.ni M.ci):=by rw[b 0];simp
 have E:n.cell? ⟨w.heap.size,1,none⟩ =some (.int .i64 (j:Nat)):=by rw[b 1];simp
 have h6:bF _ c n b0 g M S:= ⟨z,m,f⟩;have s:=h6.cell.cell (i:=0) ω;rw[show dF M S 0= .pointer (some ⟨M.gi,0,none⟩) from rfl]at s;have G:=h6.mC.cell.cell (i:=0) ω;have s1:=h6.mC.cell.cell (i:=1) ω;have D:=h6.mC.cell.frozen' (i:=0) ω;have C:=h6.mC.cell.frozen' (i:=1) ω;have h7:=bF.fo r y (h6.restore (a':=j) x);clear b m f
 go_wp2_with fail;go_region
 all_goals
  go_wp2_with fail
  go_ret2
  exact⟨rfl,h7.drew⟩
theorem Da (h:bF w0 c0 w b0 g M S) (x:Value) (q:∃A n c a,x= .agg #[.slice A n c, .int .i64 a]) (B:Int) (u:0<=B/\B<=100000) (N:Nat) (hN:N<=20) (j:N<=(rb M.B M.a).length) (V:Int) (i:V=B+((num (rb M.B M.a) N:Nat):Int)):
  Calls Tryz.prog 148 #[.pointer (some ⟨g,0,none⟩),x, .int .i64 B, .int .i64 N] w λe w'=>e= .returned (.tuple #[.int .i64 V, .int .i64 0])/\bF w0 c0 w' b0 g { M with a:=M.a+N } S:=by
 obtain⟨p,l,m,o,rfl⟩ :=q;have d:Below w.heap.size w (w.alloc (.cells #[.slice p l m, .int .i64 o] 122)):=((ax _ w).alloc (ai _) _);have s:=h.keeps d;have b:=gI (dO.rb M.B M.a) N;have hp:2 ^ N<=2 ^ 20:=bC ω hN;have f:=vN s N ω j;obtain⟨U,k⟩ :=ν (num (rb M.B M.a) N);rw[k]at i f b;have r:(0:Int)<=U/\(U:Int)<1048576:=ω;have a2i:=η f;have HV:=η i;clear f j d i k b hp hN;go_enter Tryz.func148,Tryz.ntmps148
 go_wp2_with fail;refine a2i.out.mono ?_;rintro e t ⟨rfl,h6⟩
 go_wp2_with fail
 go_ret2
 exact⟨by rw[HV.out];rfl,h6⟩
theorem KO {out a:aj} (h:vB out a) {D N:Nat} (c:1<=D) (b:D<=a.length):Nu a D N=again out D N:=by
 unfold Nu again;refine df λi _=> ?_;rw[<-mg,h.back b,mg]
end
section
variable {w w' w0 w2:World} {b0 g:Nat} {c c0:Nat->Nat} {M M':DM} {S S':DS} {s t t':IS} {b:aj} {v:Int}
theorem L5 (h:bF w0 c0 w b0 g M S) (d:Live M S t) (hO:t.Ok) (A:t.st=6) (kO:M.out.length<=10000000000) (jI:(t.rem:Int)<=4611686018427387904):
  Calls Tryz.prog 128 #[.pointer (some ⟨g,0,none⟩)] w (bh w0 c0 b0 g M t):=by
 obtain⟨c,s,hD⟩ :=h;have H:Below w.heap.size w (w.alloc (.cells #[.slice M.Ai M.ni M.ci, .int .i64 (M.a:Nat)] 122)).drew:=((ax _ w).alloc (ai _) _).drew;have z:=s.keeps H;have J:=hD.step (c':=c) s.lo (λk D=>(s.cb k D).1) (bk.bJ H) (λ_ _=>rfl);have h1:=z.refl;obtain⟨t0,B,gt,hp,IP,yq,oY,dA⟩ :=h1.b1j (d.lt (.inl A))
 have pX:c w.heap.size=0:=by
  by_cases e:c w.heap.size=0
  · exact e
  have:=(s.cb _ e).2;omega
 have aE:M.gi<w.heap.size:=s.mC.cell.lt;have oX:g<w.heap.size:=s.cell.lt;have P:=ye _ t0 B gt b0 M.gi M.ni M.ci M.a M.Ai t.lt M.B IP oY z.mC (aw s.bB ω) yq dA;unfold lM at P;have hb:=d.x;rw[hb]at P;have f:Hid (t.step=t.token):=JS A;unfold IS.token at f;obtain⟨K,hK⟩ :=ν ((aK t.lt t.x).1);obtain⟨n,U⟩ :=ν ((aK t.lt t.x).2.1);obtain⟨E,hE⟩ :=ν ((aK t.lt t.x).2.2);have o:Hid (E≠0->n=0):=λh=>by rw[<-U];exact(sS (by rw[hE];exact h)).2
 have gY:Hid (E=0\/E=3\/E=5):=by have:=eU t.lt t.x;rw[hE]at this;exact this
 have oM:Hid (E=0->0<=K/\K<288/\n<=t.x.length):=λh=>by
  obtain⟨k2,n2,e1,e2,e3,e4,e5⟩ :=mi (l:=t.lt) (x:=t.x) hO.bit (by rw[hE,h];simp);rw[e1]at hK U;simp at hK U;omega
 rw[hK,U,hE]at P f;have qs:=η P;have LY:=s.cell.cell (i:=13) ω;rw[show dF M S 13= .pointer (some ⟨gt,0,none⟩) from aN Value.pointer hp]at LY;have k0:=s.cell.cell (i:=0) ω;rw[show dF M S 0= .pointer (some ⟨M.gi,0,none⟩) from rfl]at k0;have r0:=s.mC.cell.cell (i:=0) ω;have r1:=s.mC.cell.cell (i:=1) ω;rw[show rf M.Ai M.ni M.ci M.a 0= .slice M.Ai M.ni M.ci from rfl]at r0;rw[show rf M.Ai M.ni M.ci M.a 1= .int .i64 (M.a:Nat) from rfl]at r1;have HB:=η hb;have bo:=η hp;have q:=η A;have Kq:=η pX;clear P hK U hE hp hb A IP yq oY dA h1 pX H;go_enter Tryz.func128,Tryz.ntmps128
 go_wp2_with fail;go_cut [4,5] (λs4 s5 wx=>s4= .int .i64 K/\s5= .int .i64 E/\qu wx b0 M.gi M.Ai M.ni M.ci M.B (M.a+n)/\bk (w.alloc (.cells #[.slice M.Ai M.ni M.ci, .int .i64 (M.a:Nat)] 122)).drew wx (λk=>k=M.gi))
 case first=>
  go_region_law
   ((go_simp;go_at_call 147;(refine qs.out.mono ?_))
    rintro e w5 ⟨rfl,rL,X⟩)
  all_goals
   go_wp2_with fail;go_meet;exact⟨rfl,rfl,rL,X⟩
 obtain⟨rfl,rfl,rL,X⟩ :=hcut;have h5:=z.refl.moved X rL;have x0:wc.cell? ⟨w.heap.size,0,none⟩ =some (.slice M.Ai M.ni M.ci):=by rw[X.cell (p:= ⟨w.heap.size,0,none⟩) σ (by show¬w.heap.size=M.gi;omega)];simp
 have x1:wc.cell? ⟨w.heap.size,1,none⟩ =some (.int .i64 (M.a:Nat)):=by rw[X.cell (p:= ⟨w.heap.size,1,none⟩) σ (by show¬w.heap.size=M.gi;omega)];simp
 have T:Hid (rb M.B (M.a+n)=t.x.drop n):=by show _=_;rw[<-kU,HB.out]
 have lF:=s.bB;have C:=d.rem;clear rL;by_cases nS:E=0
 rotate_left
 · have Gx:(E==0)=false:=by simpa using nS
   have sJ:=o.out nS;have m:=η (f.out.trans (af nS));have an:=η (gY.out.resolve_left nS);clear o gY oM f qs C;subst sJ;have h6:=bF.fo z J h5
   go_wp2_with fail;go_ret;rcases an.out with he | he
   · subst he;exact bh.vD m.out δ δ δ rfl h6 d.err rfl
   subst he;exact bh.lack (by rw[m.out]) h6 d rfl
 subst nS;obtain⟨Ih,ZB,P⟩ :=oM.out rfl;have jl:=η (f.out.trans (aa δ));clear o gY oM f qs;by_cases ug:K<256
 · have m:=η (jl.out.trans (af ug));unfold IS.emit at m;have r:Hid (S.most=t.rem):=C;have cQ:=bT.lit .u8 wc [K] 5;have nj:Below wc.heap.size wc (wc.alloc (.cells ([K].map (Value.int .u8)).toArray 5)):=(ax _ wc).alloc (ai _) _;have h6:=h5.keeps nj;have Sk:Hid (∀k,foot M.Aw M.gw k->k<wc.heap.size):=λk D=>(h5.Gj.eK D).2;obtain⟨-,k1, -⟩ :=h6.cells;rw[show([K].map (Value.int .u8)).toArray= #[Value.int .u8 K] from rfl]at k1;have Y:=vd _ _ _ _ _ _ _ 1 _ _ _ _ h6.Gj cQ σ σ;have a8y:=η Y;clear jl C Y nj
   go_wp2_with fail;refine a8y.out.mono ?_;rintro e w7 ⟨A7,n7,c7,rfl,GC,Gy,LF⟩
   have h7:=h6.Ca Gy GC (λk D=>by
    rcases D with D | D
    · exact .inl (.inl D)
    exact(LF k D).imp (λe=> .inr e) id)
   have ah:=Gy.ri cQ σ (λ_ ad hA hf=>by
    injection hA with hA;subst hA;have:=Sk.out _ hf;simp at this)
   have G:=xr h7 _ 1 1 _ [K] ah (by have:=Gy.size;simp at this;omega) (ai _) ω kO (by show((S.most:Nat):Int)<=_;rw[r.out];exact jI);unfold mW at G;by_cases hz:t.rem=0
   · rw[af (show S.most < [K].length by rw[r.out,hz];simp)]at G;have Kr:=η G;have HZ:=η hz;clear G hz
     go_wp2_with fail;refine Kr.out.mono ?_;rintro e w8 ⟨A8,n8,c8,rfl,N⟩
     go_wp2_with fail;go_ret;have F:t.step=({ t with x:=t.x.drop n,au:=t.au++[cy.mk K 0 0],all:=t.all++[K].take t.rem,rem:=t.rem - [K].length },6):=m.out.trans (by rw[af (by rw[HZ.out];simp)]);refine bh.bad (b:=[K].take t.rem) F δ δ δ rfl (by rw[aD];simp;omega) (bF.fo z J N) d.err (by rw[r.out])
   rw[aa (show¬S.most < [K].length by rw[r.out];simp;omega)]at G;have Kr:=η G;have HZ:Hid ([K].take t.rem=[K]):=aC ξ;have ao:Hid (¬t.rem < [K].length):=by show¬_;simp;omega
   clear G hz
   go_wp2_with fail;refine Kr.out.mono ?_;rintro e w8 ⟨A8,n8,c8,rfl,N⟩
   go_wp2_with fail;go_ret;have F:t.step=({ t with x:=t.x.drop n,au:=t.au++[cy.mk K 0 0],all:=t.all++[K].take t.rem,rem:=t.rem - [K].length },0):=m.out.trans (by rw[aa ao.out]);refine bh.go (b:=[K].take t.rem) F rfl (by rw[HZ.out];simp) (bF.fo z J N) ⟨T.out,d.st,d.last,d.left,d.c0,d.c1,d.c2,d.lens,λe=>by simp [q.out]at e,λ_=>d.lt (.inl q.out),λ_=>d.ds (.inl q.out),λe=>by simp [q.out]at e, ?_, ?_,d.err⟩ (by rw[r.out])
   · show vB (t.all++[K].take t.rem) _;rw[HZ.out];exact d.tail.add [K]
   show S.most - [K].length=t.rem - [K].length;rw[r.out]
 have kz:=η (jl.out.trans (aa ug));clear jl C;by_cases u:K=256
 · have m:=η (kz.out.trans (af u));have Qy:=De h5;have ap:=η Qy;clear kz Qy;subst u
   go_wp2_with fail;refine ap.out.mono ?_;rintro e w6 ⟨rfl,h6⟩
   go_wp2_with fail;go_ret;have al:({ t with x:=t.x.drop n }:IS).over.all=t.all:=by unfold IS.over;split <;> rfl
   refine bh.Uc m.out al (bF.fo z J h6) ?_ (by split <;> rfl);have am:=h5.mC.le;cases Kh:S.last with
   | true=>
     have W:t.last=true:=by rw[<-d.last];exact Kh
     unfold IS.over;rw[af (show({ t with x:=t.x.drop n }:IS).last=true from W),af rfl,af rfl];exact⟨by show rb M.B ((M.a+n+7)/8*8)=lN (t.x.drop n);rw[FR am,T.out],rfl,by show true=t.last;rw[W],d.left,d.c0,d.c1,d.c2,d.lens,λe=>by simp at e,λe=>by simp at e,λe=>by simp at e,λe=>by simp at e,d.tail,d.rem,d.err⟩
   | false=>
     have W:t.last=false:=by rw[<-d.last];exact Kh
     unfold IS.over;rw[aa (show¬({ t with x:=t.x.drop n }:IS).last=true by show¬t.last=true;rw[W];decide),aa δ,aa δ];exact⟨T.out,rfl,by show false=t.last;rw[W],d.left,d.c0,d.c1,d.c2,d.lens,λe=>by simp at e,λe=>by simp at e,λe=>by simp at e,λe=>by simp at e,d.tail,d.rem,d.err⟩
 have l7:=η (kz.out.trans (aa u));have bl:(K==256)=false:=by simpa using u
 clear kz;by_cases I:285<K
 · have m:=η (l7.out.trans (af I));have V:=FC K (.inr I) ω wc;have RR:=η V;have h6:=bF.fo z J h5;clear l7 V u
   go_wp2_with fail;refine RR.out.mono ?_;rintro e w6 ⟨rfl,rfl⟩
   go_wp2_with fail;go_ret;exact bh.vD m.out δ δ δ rfl h6 d.err rfl
 have O:=η (l7.out.trans (aa I));obtain⟨j,hj⟩ :=ν ((K-257).toNat);have xE:j<29:=ω;have V:=qR j xE K ω wc;have RR:=η V;rw[hj]at O;have jW:=IY j xE;obtain⟨Q,ab⟩ :=ν (lB j);obtain⟨LE,Z⟩ :=ν (lE j);rw[ab,Z]at RR O jW;have be:(0:Int)<=Q/\(Q:Int)<=258/\(0:Int)<=LE/\(LE:Int)<=5:=ω;have R:rb ({ M with a:=M.a+n }:DM).B ({ M with a:=M.a+n }:DM).a=t.x.drop n:=T.out;clear l7 V hj xE ab Z jW u;by_cases v:(t.x.drop n).length<LE
 · have m:=η (O.out.trans (af v));have y:Calls Tryz.prog 148 #[.pointer (some ⟨g,0,none⟩), .agg #[.slice M.Ai M.ni M.ci, .int .i64 M.a], .int .i64 Q, .int .i64 LE] wc λe w'=>e= .returned (.tuple #[.int .i64 0, .int .i64 5])/\bF (w.alloc (.cells #[.slice M.Ai M.ni M.ci, .int .i64 (M.a:Nat)] 122)).drew c w' b0 g M S:=yi h5 M.a s.mC.le Q LE (by rw[R];exact v);have GJ:=η y;clear v O y R
   go_wp2_with fail;refine RR.out.mono ?_;rintro e w6 ⟨rfl,rfl⟩
   go_wp2_with fail;refine GJ.out.mono ?_;rintro e w7 ⟨rfl,h7⟩;have ac:=h7.cell.frozen' (i:=15) ω;have ae:=h7.cell.cell (i:=15) ω;have N:=bF.fo z J (h7.put (i:=15) ω (.int .i64 0) { S with len:=0 } (fg rfl rfl rfl rfl rfl rfl rfl rfl rfl rfl rfl rfl rfl rfl rfl rfl))
   go_wp2_with fail;go_ret;exact bh.lack (by rw[m.out]) N ⟨d.x,d.st,d.last,d.left,d.c0,d.c1,d.c2,d.lens,d.hd,d.lt,d.ds,λe=>by simp [q.out]at e,d.tail,d.rem,d.err⟩ rfl
 have m:=η (O.out.trans (aa v));obtain⟨L,rY⟩ :=ν (Q+num (t.x.drop n) LE);have y:=Da h5 (.agg #[.slice M.Ai M.ni M.ci, .int .i64 M.a]) ⟨_,_,_,_,rfl⟩ Q ω LE ω (by rw[R];omega) (L:Int) (by rw[R,<-rY];simp);rw[rY]at m;have GJ:=η y;have Vy:Hid (rb M.B (M.a+n+LE)=(t.x.drop n).drop LE):=by show _=_;rw[<-kU,T.out]
 have bi:(0:Int)<=L:=ω;clear v O y R rY
 go_wp2_with fail;refine RR.out.mono ?_;rintro e w6 ⟨rfl,rfl⟩
 go_wp2_with fail;refine GJ.out.mono ?_;rintro e w7 ⟨rfl,h7⟩;have ac:=h7.cell.frozen' (i:=15) ω;have ae:=h7.cell.cell (i:=15) ω;have z5:=h7.cell.frozen' (i:=5) ω;have k5:=h7.cell.cell (i:=5) ω;have N:=bF.fo z J ((h7.put (i:=15) ω (.int .i64 L) { S with len:=L } (fg rfl rfl rfl rfl rfl rfl rfl rfl rfl rfl rfl rfl rfl rfl rfl rfl)).put (i:=5) ω (.int .i64 7) { S with len:=L,st:=7 } (fg rfl rfl rfl rfl rfl rfl rfl rfl rfl rfl rfl rfl rfl rfl rfl rfl))
 go_wp2_with fail;go_ret;exact bh.Uc m.out rfl N ⟨Vy.out,rfl,d.last,d.left,d.c0,d.c1,d.c2,d.lens,λe=>by simp at e,λ_=>d.lt (.inl q.out),λ_=>d.ds (.inl q.out),λ_=>rfl,d.tail,d.rem,d.err⟩ rfl
end
section
variable {w w' w0 w2:World} {b0 g:Nat} {c c0:Nat->Nat} {M M':DM} {S S':DS} {s t t':IS} {b:aj} {v:Int}
theorem Cy (h:bF w0 c0 w b0 g M S) (f:Live M S t) (hO:t.Ok) (y:t.st=7) (kO:M.out.length<=10000000000) (jI:(t.rem:Int)<=4611686018427387904):
  Calls Tryz.prog 129 #[.pointer (some ⟨g,0,none⟩)] w (bh w0 c0 b0 g M t):=by
 obtain⟨c,o,hD⟩ :=h;have L:Below w.heap.size w (w.alloc (.cells #[.slice M.Ai M.ni M.ci, .int .i64 (M.a:Nat)] 122)).drew:=((ax _ w).alloc (ai _) _).drew;have z:=o.keeps L;have F:=hD.step (c':=c) o.lo (λk J=>(o.cb k J).1) (bk.bJ L) (λ_ _=>rfl);have h1:=z.refl;obtain⟨t0,B,gt,hp,IP,yq,oY,dA⟩ :=h1.b1h (f.ds (.inr y))
 have pX:c w.heap.size=0:=by
  by_cases e:c w.heap.size=0
  · exact e
  have:=(o.cb _ e).2;omega
 have bt:M.gi<w.heap.size:=o.mC.cell.lt;have oX:g<w.heap.size:=o.cell.lt;have R:=ye _ t0 B gt b0 M.gi M.ni M.ci M.a M.Ai t.ds M.B IP oY z.mC (aw o.bB ω) yq dA;unfold lM at R;have hb:=f.x;rw[hb]at R;have d:Hid (t.step=t.bm):=Db y;unfold IS.bm at d;obtain⟨K,hK⟩ :=ν ((aK t.ds t.x).1);obtain⟨n,Y⟩ :=ν ((aK t.ds t.x).2.1);obtain⟨E,hE⟩ :=ν ((aK t.ds t.x).2.2);have m:Hid (E≠0->n=0):=λh=>by rw[<-Y];exact(sS (by rw[hE];exact h)).2
 have gY:Hid (E=0\/E=3\/E=5):=by have:=eU t.ds t.x;rw[hE]at this;exact this
 have oM:Hid (E=0->0<=K/\K<288/\n<=t.x.length):=λh=>by
  obtain⟨k2,n2,e1,e2,e3,e4,e5⟩ :=mi (l:=t.ds) (x:=t.x) hO.bit (by rw[hE,h];simp);rw[e1]at hK Y;simp at hK Y;omega
 rw[hK,Y,hE]at R d;have qs:=η R;have LY:=o.cell.cell (i:=14) ω;rw[show dF M S 14= .pointer (some ⟨gt,0,none⟩) from aN Value.pointer hp]at LY;have k0:=o.cell.cell (i:=0) ω;rw[show dF M S 0= .pointer (some ⟨M.gi,0,none⟩) from rfl]at k0;have r0:=o.mC.cell.cell (i:=0) ω;have r1:=o.mC.cell.cell (i:=1) ω;rw[show rf M.Ai M.ni M.ci M.a 0= .slice M.Ai M.ni M.ci from rfl]at r0;rw[show rf M.Ai M.ni M.ci M.a 1= .int .i64 (M.a:Nat) from rfl]at r1;have HB:=η hb;have bL:=η hp;have A:=η y;have Kq:=η pX;clear R hK Y hE hp hb y IP yq oY dA h1 pX L;go_enter Tryz.func129,Tryz.ntmps129
 go_wp2_with fail;go_cut [4,5] (λs4 s5 wx=>s4= .int .i64 K/\s5= .int .i64 E/\qu wx b0 M.gi M.Ai M.ni M.ci M.B (M.a+n)/\bk (w.alloc (.cells #[.slice M.Ai M.ni M.ci, .int .i64 (M.a:Nat)] 122)).drew wx (λk=>k=M.gi))
 case first=>
  go_region_law
   ((go_simp;go_at_call 147;(refine qs.out.mono ?_))
    rintro e w5 ⟨rfl,rL,nT⟩)
  all_goals
   go_wp2_with fail;go_meet;exact⟨rfl,rfl,rL,nT⟩
 obtain⟨rfl,rfl,rL,nT⟩ :=hcut;have h5:=z.refl.moved nT rL;have x0:wc.cell? ⟨w.heap.size,0,none⟩ =some (.slice M.Ai M.ni M.ci):=by rw[nT.cell (p:= ⟨w.heap.size,0,none⟩) σ (by show¬w.heap.size=M.gi;omega)];simp
 have x1:wc.cell? ⟨w.heap.size,1,none⟩ =some (.int .i64 (M.a:Nat)):=by rw[nT.cell (p:= ⟨w.heap.size,1,none⟩) σ (by show¬w.heap.size=M.gi;omega)];simp
 have sK:Hid (rb M.B (M.a+n)=t.x.drop n):=by show _=_;rw[<-kU,HB.out]
 have lF:=o.bB;have H:=f.rem;clear rL;by_cases nS:E=0
 rotate_left
 · have Gx:(E==0)=false:=by simpa using nS
   have sJ:=m.out nS;have r:=η (d.out.trans (af nS));have aE:=η (gY.out.resolve_left nS);clear m gY oM d qs H;subst sJ;have h6:=bF.fo z F h5
   go_wp2_with fail;go_ret;rcases aE.out with he | he
   · subst he;exact bh.vD r.out δ δ δ rfl h6 f.err rfl
   subst he;exact bh.lack (by rw[r.out]) h6 f rfl
 subst nS;obtain⟨Ih,ZB,R⟩ :=oM.out rfl;have jl:=η (d.out.trans (aa δ));clear m gY oM d qs;obtain⟨am,an⟩ :=hO.h7 A.out;have Z:=f.len A.out;have HLEN:=η Z;have q:=η H;clear H Z;by_cases ad:29<K
 · have r:=η (jl.out.trans (af ad));have Qq:=Cz K (.inr ω) wc;have U:=η Qq;have h6:=bF.fo z F h5;clear jl Qq
   go_wp2_with fail;refine U.out.mono ?_;rintro e w6 ⟨rfl,rfl⟩
   go_wp2_with fail;go_ret;exact bh.vD r.out δ δ δ rfl h6 f.err rfl
 have Q:=η (jl.out.trans (aa ad));obtain⟨j,hj⟩ :=ν (K.toNat);have xE:j<30:=ω;have Qq:=pA j xE K ω wc;have U:=η Qq;rw[hj]at Q
 have jW:dB j<=32768/\dE j<=13:=by
  have:∀j,j<30->dB j<=32768/\dE j<=13:=by decide+kernel
  exact this j xE
 have wj:=λv=> @TD j v xE;obtain⟨T,ac⟩ :=ν (dB j);obtain⟨LE,ab⟩ :=ν (dE j);rw[ac,ab]at U Q jW wj;have bx:(0:Int)<=T/\(T:Int)<=32768/\(0:Int)<=LE/\(LE:Int)<=13:=ω;have V:rb ({ M with a:=M.a+n }:DM).B ({ M with a:=M.a+n }:DM).a=t.x.drop n:=sK.out;clear jl Qq hj xE ac ab jW;by_cases s:(t.x.drop n).length<LE
 · have r:=η (Q.out.trans (af s));have u:Calls Tryz.prog 148 #[.pointer (some ⟨g,0,none⟩), .agg #[.slice M.Ai M.ni M.ci, .int .i64 M.a], .int .i64 T, .int .i64 LE] wc λe w'=>e= .returned (.tuple #[.int .i64 0, .int .i64 5])/\bF (w.alloc (.cells #[.slice M.Ai M.ni M.ci, .int .i64 (M.a:Nat)] 122)).drew c w' b0 g M S:=yi h5 M.a o.mC.le T LE (by rw[V];exact s);have GJ:=η u;clear s Q u V wj
   go_wp2_with fail;refine U.out.mono ?_;rintro e w6 ⟨rfl,rfl⟩
   go_wp2_with fail;refine GJ.out.mono ?_;rintro e w7 ⟨rfl,h7⟩;have h8:=bF.fo z F h7
   go_wp2_with fail;go_ret;exact bh.lack (by rw[r.out]) h8 f rfl
 have P:=η (Q.out.trans (aa s));unfold IS.text at P;have CL:=gI (hO.bit.ed n) LE;have F:Hid (DE b0 w0 c0 (w.alloc (.cells #[.slice M.Ai M.ni M.ci, .int .i64 (M.a:Nat)] 122)).drew c):=F;have bl:=wj _ CL;obtain⟨D,Up⟩ :=ν (T+num (t.x.drop n) LE);have u:=Da h5 (.agg #[.slice M.Ai M.ni M.ci, .int .i64 M.a]) ⟨_,_,_,_,rfl⟩ T ω LE ω (by rw[V];omega) (D:Int) (by rw[V,<-Up];simp);rw[Up]at P bl;have GJ:=η u;have Vy:Hid (rb M.B (M.a+n+LE)=(t.x.drop n).drop LE):=by show _=_;rw[<-kU,sK.out]
 have bI:(1:Int)<=D/\(D:Int)<=32768:=ω;have Bg:=f.tail.len;have I:M.nw=M.l.length:=o.Gj.nB;have bs:(3:Int)<=(S.len:Int)/\(S.len:Int)<=258:=by have:=HLEN.out;omega
 have bv:Hid (M.nw=M.l.length):=I;clear s Q u V Up wj CL am an;by_cases Fe:t.all.length<D
 · have r:=η (P.out.trans (af Fe))
   have O:Hid (∀W,zn W b0 M.gw M.Aw M.nw M.cw M.l->Calls Tryz.prog 149 #[.pointer (some ⟨M.gw,0,none⟩), .int .i64 S.len, .int .i64 D] W λe w'=>e= .returned (.tuple #[.slice none 0 0, .int .i64 3])/\W=w'):=λW hW=>by
    refine(Px W b0 M.gw M.nw M.cw M.Aw M.l hW S.len D ⟨ω,ω⟩ (.inr ω)).mono ?_;rintro e w' ⟨rfl,hq⟩;exact⟨rfl,hq⟩
   clear Fe P Bg I
   go_wp2_with fail;refine U.out.mono ?_;rintro e w6 ⟨rfl,rfl⟩
   go_wp2_with fail;refine GJ.out.mono ?_;rintro e w7 ⟨rfl,h7⟩;have k1:=h7.cell.cell (i:=1) ω;have ah:=h7.cell.cell (i:=15) ω
   go_wp2_with fail
   go_region_law
    ((go_simp;go_at_call 149;(refine(O.out _ (by first | exact h7.Gj | exact h7.drew.Gj)).mono ?_))
     rintro e w8 ⟨rfl,rfl⟩)
   all_goals
    go_wp2_with fail;go_ret;exact bh.vD r.out δ δ δ rfl (bF.fo z F.out h7.drew) f.err rfl
 have r:=η (P.out.trans (aa Fe));unfold IS.emit at r;have ae:D<=M.l.length:=ω;have UD:Hid (Nu M.l D t.len=again t.all D t.len):=KO f.tail ω ae
 have O:Hid (∀W,zn W b0 M.gw M.Aw M.nw M.cw M.l->Calls Tryz.prog 149 #[.pointer (some ⟨M.gw,0,none⟩), .int .i64 S.len, .int .i64 D] W (GI W b0 M.gw M.Aw M.l D S.len)):=λW hW=>
  YW W b0 M.gw M.nw M.cw M.Aw M.l hW S.len D ⟨ω,ω⟩ ⟨ω,ω⟩
 clear Fe P Bg I ae
 go_wp2_with fail;refine U.out.mono ?_;rintro e w6 ⟨rfl,rfl⟩
 go_wp2_with fail;refine GJ.out.mono ?_;rintro e w7 ⟨rfl,h7⟩;have k1:=h7.cell.cell (i:=1) ω;have ah:=h7.cell.cell (i:=15) ω
 go_wp2_with fail
 go_region_law
  ((go_simp;go_at_call 149;(refine(O.out _ (by first | exact h7.Gj | exact h7.drew.Gj)).mono ?_))
   rintro e w8 ⟨g9,A9,n9,c9,rfl,X,al,bp,be,ap⟩)
 all_goals
  have h8:=bF.Ca (M:={ M with a:=M.a+n+LE }) h7.drew be al (λk J=>by
   rcases J with J | J
   · exact .inl (.inl J)
   exact(ap k J).imp (λe=> .inr e) id)
  have z5:=h8.cell.frozen' (i:=5) ω;have k5:=h8.cell.cell (i:=5) ω;have h9:=h8.put (i:=5) ω (.int .i64 6) { S with st:=6 } (fg rfl rfl rfl rfl rfl rfl rfl rfl rfl rfl rfl rfl rfl rfl rfl rfl);have ao:ak (some (⟨g9,0,none⟩ :Addr))≠some g:=λe=>by have:=(X.2.lt e).1;have:=h7.cell.lt;simp at*;omega
  have LM:=X.far (p:= ⟨g,5,none⟩) ao (.int .i64 6);have C:=xr h9 _ _ S.len _ _ LM.rd (ai _) (ai _) ω kO (by show((S.most:Nat):Int)<=_;rw[q.out];exact jI);unfold mW at C;have bi:Hid ((Nu M.l D S.len).length=S.len):=Aq _ _ _;rw[bi.out]at C;by_cases hz:t.rem<t.len
  · rw[af (show S.most<S.len by rw[q.out,HLEN.out];exact hz)]at C;have Kr:=η C;have HZ:=η hz;clear C hz
    go_wp2_with fail;refine Kr.out.mono ?_;rintro e Gi ⟨A8,n8,c8,rfl,N⟩
    go_wp2_with fail;go_ret;have G:t.step=({ t with x:=(t.x.drop n).drop LE,st:=6,au:=t.au++[cy.mk 0 t.len D],all:=t.all++(again t.all D t.len).take t.rem,rem:=t.rem-(again t.all D t.len).length },6):=r.out.trans (by rw[af (by rw[cK];exact HZ.out)]);refine bh.bad (b:=(again t.all D t.len).take t.rem) G δ δ δ rfl (by rw[aD,cK];have:=HLEN.out;omega) (bF.fo z F.out N) f.err ?_;show M.out++(Nu M.l D S.len).take S.most=_;rw[q.out,HLEN.out,UD.out]
  rw[aa (show¬S.most<S.len by rw[q.out,HLEN.out];exact hz)]at C;have Kr:=η C;have HZ:=η hz;have bo:Hid ((again t.all D t.len).take t.rem=again t.all D t.len):=aC (by rw[cK];omega);clear C hz
  go_wp2_with fail;refine Kr.out.mono ?_;rintro e Gi ⟨A8,n8,c8,rfl,N⟩
  go_wp2_with fail;go_ret;have G:t.step=({ t with x:=(t.x.drop n).drop LE,st:=6,au:=t.au++[cy.mk 0 t.len D],all:=t.all++(again t.all D t.len).take t.rem,rem:=t.rem-(again t.all D t.len).length },0):=r.out.trans (by rw[aa (by rw[cK];exact HZ.out)]);refine bh.go (b:=(again t.all D t.len).take t.rem) G rfl (by rw[aD,cK];have:=HLEN.out;omega) (bF.fo z F.out N) ⟨Vy.out,rfl,f.last,f.left,f.c0,f.c1,f.c2,f.lens,λe=>by simp at e,λ_=>f.lt (.inr A.out),λ_=>f.ds (.inr A.out),λe=>by simp at e, ?_, ?_,f.err⟩ ?_
  · show vB (t.all++(again t.all D t.len).take t.rem) (zT M.l (Nu M.l D S.len));rw[bo.out,HLEN.out,UD.out];exact f.tail.add _
  · show S.most-S.len=t.rem-(again t.all D t.len).length;rw[q.out,HLEN.out,cK]
  show M.out++(Nu M.l D S.len).take S.most=_;rw[q.out,HLEN.out,UD.out]
end
section
variable {w w' w0 w2:World} {b0 g:Nat} {c c0:Nat->Nat} {M M':DM} {S S':DS} {s t t':IS} {b:aj} {v:Int}
theorem PH (h:s.st=8):s.step=(s,8):=by unfold IS.step;rw[aa ω,aa ω,aa ω,aa ω,aa ω,aa ω,aa ω,aa ω]
theorem PK (h:bF w0 c0 w b0 g M S) (c:Live M S s) (hO:s.Ok) (want:Int) (m:1<=want) (f:want<=4611686018427387904) (j:M.out.length<=10000000000) (i:(s.rem:Int)<=4611686018427387904):
  Calls Tryz.prog 102 #[.pointer (some ⟨g,0,none⟩), .int .i64 want] w (bh w0 c0 b0 g M s):=by
 obtain⟨-, -, -, -, -,l, -⟩ :=h.cells;have n:=hO.st8;rw[c.st]at l;have k:s.st=0\/s.st=1\/s.st=2\/s.st=3\/s.st=4\/s.st=5\/s.st=6\/s.st=7\/s.st=8:=ω;clear n;rcases k with a | a | a | a | a | a | a | a | a
 all_goals
  rw[a]at l
 · have b:=η (KV h c hO a);clear a;go_enter Tryz.func102,Tryz.ntmps102
   go_wp2_with fail;refine b.out.mono ?_;rintro e w1 hp;obtain⟨_,_,_,v,_,rfl,_⟩ :=id hp
   go_wp2_with fail;go_ret;exact hp
 · have b:=η (PJ h c hO a);clear a;go_enter Tryz.func102,Tryz.ntmps102
   go_wp2_with fail;refine b.out.mono ?_;rintro e w1 hp;obtain⟨_,_,_,v,_,rfl,_⟩ :=id hp
   go_wp2_with fail;go_ret;exact hp
 · have b:=η (Hz h c hO a want m f j i);clear a;go_enter Tryz.func102,Tryz.ntmps102
   go_wp2_with fail;refine b.out.mono ?_;rintro e w1 hp;obtain⟨_,_,_,v,_,rfl,_⟩ :=id hp
   go_wp2_with fail;go_ret;exact hp
 · have b:=η (L4 h c hO a);clear a;go_enter Tryz.func102,Tryz.ntmps102
   go_wp2_with fail;refine b.out.mono ?_;rintro e w1 hp;obtain⟨_,_,_,v,_,rfl,_⟩ :=id hp
   go_wp2_with fail;go_ret;exact hp
 · have b:=η (KX h c hO a);clear a;go_enter Tryz.func102,Tryz.ntmps102
   go_wp2_with fail;refine b.out.mono ?_;rintro e w1 hp;obtain⟨_,_,_,v,_,rfl,_⟩ :=id hp
   go_wp2_with fail;go_ret;exact hp
 · have b:=η (EJ h c hO a);clear a;go_enter Tryz.func102,Tryz.ntmps102
   go_wp2_with fail;refine b.out.mono ?_;rintro e w1 hp;obtain⟨_,_,_,v,_,rfl,_⟩ :=id hp
   go_wp2_with fail;go_ret;exact hp
 · have b:=η (L5 h c hO a j i);clear a;go_enter Tryz.func102,Tryz.ntmps102
   go_wp2_with fail;refine b.out.mono ?_;rintro e w1 hp;obtain⟨_,_,_,v,_,rfl,_⟩ :=id hp
   go_wp2_with fail;go_ret;exact hp
 · have b:=η (Cy h c hO a j i);clear a;go_enter Tryz.func102,Tryz.ntmps102
   go_wp2_with fail;refine b.out.mono ?_;rintro e w1 hp;obtain⟨_,_,_,v,_,rfl,_⟩ :=id hp
   go_wp2_with fail;go_ret;exact hp
 have d:=η (PH a);clear a;go_enter Tryz.func102,Tryz.ntmps102
 go_wp2_with fail;go_ret;exact⟨M,S,s,8,[],rfl,h,c.err,σ,σ,σ, .inr (.inr ⟨δ,δ,by rw[IS.iA (by rw[d.out];simp),d.out],λ_=>c⟩)⟩
end
end Go.Proofs.YtdhmnlpfhfmpfaaGreat
