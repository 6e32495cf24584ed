/-
  part
-/
import Derived.Test.YtddhegejmkgmjaaGreatInfE
import Derived.BigRegion
set_option linter.unusedVariables false
set_option maxRecDepth 100000
set_option maxHeartbeats 4000000
namespace Go.Proofs.YtddhegejmkgmjaaGreat
open Go.RowKit
section
variable {w w' w0 w2:World} {b0 g:Nat} {c c0:Nat->Nat} {M M':DM} {S S':DS} {s t t':IS} {b:List Int} {v:Int}
theorem av.bR (a:dU w b0 g c M S) (hd:DE b0 w0 c0 w c) (h:av w c w' b0 g M' S'):av w0 c0 w' b0 g M' S':=by
 obtain⟨c',e,b⟩ :=h;exact⟨c',e,hd.step a.lo (λk d=>(a.cb k d).1) b.2.1 b.2.2⟩
theorem av.restore (h:av w0 c0 w b0 g M S) {a':Nat} (c:a'<=8*M.B.length):av w0 c0 ((w.setCell ⟨M.gi,0,none⟩ (.slice M.Ai M.ni M.ci)).setCell ⟨M.gi,1,none⟩ (.int .i64 a')) b0 g { M with a:=a' } S:=by
 have b:=h.ir;refine h.moved (((aq.refl w (λk=>k=M.gi)).setCell (p:= ⟨M.gi,0,none⟩) (.inl rfl) _).setCell (p:= ⟨M.gi,1,none⟩) (.inl rfl) _) ⟨((b.cell.aQ (i:=0) ω _).aQ (i:=1) ω _).congr λi hi=> ?_,b.lo,(b.own.far (p:= ⟨M.gi,0,none⟩) b.apart _).far (p:= ⟨M.gi,1,none⟩) b.apart _,b.apart,b.fC,c⟩;obtain rfl | rfl:i=0\/i=1:=ω
 · rfl
 · rfl
def eN (w0:World) (c0:Nat->Nat) (b0 g:Nat) (M:DM) (S:DS) (t:IS) (e:Ending) (w':World):Prop:=
 ∃M' v t',e= .returned (.int .i64 v)/\av w0 c0 w' b0 g M' S/\M'.out=M.out/\t'.all=t.all/\
  ((v=0/\t.step=(t',0)/\t'.st=5/\Live M' S t')\/(v=5/\t.step.2=5/\t'=t/\Live M' S t)\/(v≠0/\v≠5/\v≠8/\t.step=(t',v)))
theorem eN.go (b:t.step=(t',0)) (h5:t'.st=5) (a:t'.all=t.all) (h:av w0 c0 w' b0 g M' S) (d:Live M' S t') (c:M'.out=M.out):eN w0 c0 b0 g M S t (.returned (.int .i64 0)) w':=
 ⟨M',0,t',rfl,h,c,a, .inl ⟨rfl,b,h5,d⟩⟩
theorem eN.lack (a:t.step.2=5) (h:av w0 c0 w' b0 g M' S) (c:Live M' S t) (b:M'.out=M.out):eN w0 c0 b0 g M S t (.returned (.int .i64 5)) w':=
 ⟨M',5,t,rfl,h,b,rfl, .inr (.inl ⟨rfl,a,rfl,c⟩)⟩
theorem eN.bad (b:t.step=(t',v)) (e:v≠0) (h5:v≠5) (d:v≠8) (a:t'.all=t.all) (h:av w0 c0 w' b0 g M' S) (c:M'.out=M.out):eN w0 c0 b0 g M S t (.returned (.int .i64 v)) w':=
 ⟨M',v,t',rfl,h,c,a, .inr (.inr ⟨e,h5,d,b⟩)⟩
def a3b (w0:World) (c0:Nat->Nat) (b0 g:Nat) (M:DM) (S:DS) (n:Nat) (K:Int) (k:Nat) (i:Value) (wr:World):Prop:=
 ∃j b a c2,j<=n/\Hid (k=n-j)/\i= .int .i64 j/\av w0 c0 wr b0 g { M with Al:=b,nl:=a,cl:=c2,lens:=M.lens++List.replicate j K } S
theorem Cf (h:av w0 c0 w b0 g M S) (b:Live M S t) (hO:t.Ok) (o:t.st=5) (ab:t.lens.length<t.c0+t.c1):
  Calls Tryz.prog 123 #[.pointer (some ⟨g,0,none⟩)] w (eN w0 c0 b0 g M S t):=by
 obtain⟨c,r,hD⟩ :=h;have A:Below w.heap.size w (w.alloc (.cells #[.slice M.Ai M.ni M.ci, .int .i64 (M.a:Nat)] 104)).drew:=((Below.refl _ w).alloc (Nat.le_refl _) _).drew;have C:=r.keeps A;have N:=hD.step (c':=c) r.lo (λk hk=>(r.cb k hk).1) (aq.aB A) (λ_ _=>rfl);have h1:=C.refl;obtain⟨t0,B,gt,hp,CS,Qf,jS,bb⟩ :=h1.a5F (b.hd o)
 have oU:c w.heap.size=0:=by
  by_cases e:c w.heap.size=0
  · exact e
  · have:=(r.cb _ e).2;omega
 have Wt:M.gi<w.heap.size:=r.ir.cell.lt;have kJ:g<w.heap.size:=r.cell.lt;have H:=rV _ t0 B gt b0 M.gi M.ni M.ci M.a M.Ai t.hd M.B CS jS C.ir (Nat.le_trans r.bB ω) Qf bb;rw[show gN=gN from rfl]at H;unfold gN at H;have hb:=b.x;rw[hb]at H;have d:Hid (t.step=t.length):=CZ o ab;unfold IS.length at d;obtain⟨i0,hi,V,U,R⟩ :=info_parts iF;have Hi:=η hi;have dM:=η V;have cV:=η U;have dN:=η R;clear hi V U R;obtain⟨K,hK⟩ :=ν ((ae t.hd t.x).1);obtain⟨n,Z⟩ :=ν ((ae t.hd t.x).2.1);obtain⟨E,hE⟩ :=ν ((ae t.hd t.x).2.2);have q:Hid (E≠0->n=0):=λh=>by rw[<-Z];exact(nC (by rw[hE];exact h)).2
 have eZ:Hid (E=0\/E=3\/E=5):=by have:=bK t.hd t.x;rw[hE]at this;exact this
 have jL:Hid (E=0->0<=K/\K<19/\n<=t.x.length):=λh=>by
  obtain⟨k2,Q,e1,e2,e3,e4,e5⟩ :=ie (l:=t.hd) (x:=t.x) hO.bit (by rw[hE,h];simp);have:=(hO.h5 o).2.2.2;rw[e1]at hK Z;simp at hK Z;omega
 rw[hK,Z,hE]at H d;have ku:=η H;have Ox:=r.cell.cell (i:=12) ω;rw[show dF M S 12= .pointer (some ⟨gt,0,none⟩) from congrArg Value.pointer hp]at Ox;have k0:=r.cell.cell (i:=0) ω;rw[show dF M S 0= .pointer (some ⟨M.gi,0,none⟩) from rfl]at k0;have r0:=r.ir.cell.cell (i:=0) ω;have r1:=r.ir.cell.cell (i:=1) ω;rw[show rf M.Ai M.ni M.ci M.a 0= .slice M.Ai M.ni M.ci from rfl]at r0;rw[show rf M.Ai M.ni M.ci M.a 1= .int .i64 (M.a:Nat) from rfl]at r1;obtain⟨X,Su,Sv,Sw⟩ :=hO.h5 o;have aA:=hO.cc (.inr o);have bT:=r.lens.1;rw[b.lens]at bT;have aE:(0:Int)<=M.nl/\(M.nl:Int)<=316/\(0:Int)<=S.c0/\(S.c0:Int)<=286/\(0:Int)<=S.c1/\(S.c1:Int)<=30:=by have:=b.c0;have:=b.c1;omega
 have kT:=η bT;have HB:=η hb;have bd:=η hp;have f:=η o;have Ld:=η oU;have Zw:=η X;clear H hK Z hE hp hb bT o CS Qf jS bb h1 oU Su Sw Sv aA X ab A;go_enter Tryz.func123,Tryz.ntmps123
 go_wp2_with fail
 go_cut [4,5] (λs4 s5 wx=>s4= .int .i64 K/\s5= .int .i64 E/\kd wx b0 M.gi M.Ai M.ni M.ci M.B (M.a+n)/\aq (w.alloc (.cells #[.slice M.Ai M.ni M.ci, .int .i64 (M.a:Nat)] 104)).drew wx (λk=>k=M.gi))
 case first=>
  go_region_law
   ((go_simp;go_at_call 124;(refine ku.out.mono ?_))
    rintro e w5 ⟨rfl,lF,kU⟩)
  all_goals
   go_wp2_with fail
   go_meet
   exact⟨rfl,rfl,lF,kU⟩
 case rest=>
  obtain⟨rfl,rfl,lF,kU⟩ :=hcut;have h5:=C.refl.moved kU lF;have oA:Hid (rb M.B (M.a+n)=t.x.drop n):=by show _=_;rw[<-fR,HB.out]
  clear lF;by_cases lr:E=0
  · subst lr;obtain⟨Ia,RA,H⟩ :=jL.out rfl;have eE:=η (d.out.trans (if_neg δ));clear q eZ jL d ku;by_cases zw:K<16
    · have u:=η (eE.out.trans (if_pos zw));clear eE;obtain⟨-, -, -, -, -, -, -, -, -, -, -,v, -⟩ :=h5.cells;have eD:=h5.lens.alloc (.cells #[.int .i64 K] 3);have A:=h5.lo
      go_wp2_with (at_builtin;(refine au .i64 b0 3 i0 8 rfl (.tmp 35) (.tmp 37) _ rfl Tryz.underlying51 Hi.out dM.out cV.out dN.out rfl eD rfl (aT.lit .i64 wc [K] 3) (by show M.nl+1<=_;omega) ω ξ ?_)
                   intro A4 d4 w4 aC z bG;have dG:=(h5.cell.alloc (.cells #[.int .i64 K] 3)).grown z (λe=>h5.apart.2.1 e.symm);have Zb:=dG.cell (i:=11) ω;have ad:=dG.frozen' (i:=11) ω)
      have h6:=av.bR C N (h5.push K z aC bG);go_ret
      exact eN.go u.out f.out rfl h6 ⟨oA.out,b.st,b.last,b.left,b.c0,b.c1,b.c2,by show M.lens++[K]=t.lens++[K];rw[b.lens],λ_=>b.hd f.out,λe=>by simp [f.out]at e,λe=>by simp [f.out]at e,λe=>by simp [f.out]at e,b.tail,b.rem,b.err⟩ rfl
    · have fc:=η (eE.out.trans (if_neg zw));clear eE;have m:K=16\/K=17\/K=18:=ω;obtain⟨-, -, -, -, -, -, -, -, -, -, -,v, -⟩ :=h5.cells;obtain⟨Bd,Et⟩ :=ν (decide (K=16/\t.lens.length=0));have F:=η Et;clear Et
      go_upto_region 8 with fail
      go_cut [50] (λs wx=>s= .bool Bd/\wx=wc)
      case first=>
       by_cases O:K=16
       · by_cases I:M.nl=0
         · have hd:Hid (true=Bd):=by show _=_;rw[<-F.out];exact(decide_eq_true ⟨O,by rw[<-kT.out];exact I⟩).symm
           have a7m:wc.cell? ⟨g,11,none⟩ =some (.slice M.Al 0 M.cl):=by rw[<-I];exact v
           clear v I F;subst O
           go_wp2_with fail
           go_meet
           exact⟨congrArg Value.bool hd.out,rfl⟩
         · have hd:Hid (false=Bd):=by show _=_;rw[<-F.out];exact(decide_eq_false λh=>I (by rw[kT.out];exact h.2)).symm
           have CJ:((M.nl:Int)==0)=false:=ξ;clear I F;subst O
           go_wp2_with fail
           go_meet
           exact⟨congrArg Value.bool hd.out,rfl⟩
       · have hd:Hid (false=Bd):=by show _=_;rw[<-F.out];exact(decide_eq_false λh=>O h.1).symm
         have ap:(K==16)=false:=by simpa using O
         clear O F
         go_wp2_with fail
         go_meet
         exact⟨congrArg Value.bool hd.out,rfl⟩
      case rest=>
       obtain⟨rfl,rfl⟩ :=hcut;by_cases L:K=16/\t.lens.length=0
       · have u:=η (fc.out.trans (if_pos L));rw[<-F.out,decide_eq_true L];have h6:=av.bR C N h5;clear L fc m zw
         go_wp2_with fail
         go_ret
         exact eN.bad u.out δ δ δ rfl h6 rfl
       · have fX:=η (fc.out.trans (if_neg L));rw[<-F.out,decide_eq_false L];have qo:K=16->0<M.nl:=λh=>by have:=kT.out;omega
         clear fc L;by_cases y:(t.x.drop n).length<IS.rW K
         · have u:=η (fX.out.trans (if_pos y));have Y:=JB h5 K m (by rw[show({ M with a:=M.a+n }:DM).B=M.B from rfl,show({ M with a:=M.a+n }:DM).a=M.a+n from rfl,oA.out];exact y);have J:=η Y;clear Y y fX qo m
           go_wp2_with fail
           refine J.out.mono ?_;rintro e P ⟨rfl,h6⟩;obtain⟨c6,ac,VR⟩ :=h6;have XJ:∀i,P.cell? ⟨w.heap.size,i,none⟩ =(w.alloc (.cells #[.slice M.Ai M.ni M.ci, .int .i64 (M.a:Nat)] 104)).drew.cell? ⟨w.heap.size,i,none⟩ :=λi=>VR.2.1.cell (p:= ⟨w.heap.size,i,none⟩) σ (λe=>e Ld.out)
           have x0:P.cell? ⟨w.heap.size,0,none⟩ =some (.slice M.Ai M.ni M.ci):=by rw[XJ 0];simp
           have x1:P.cell? ⟨w.heap.size,1,none⟩ =some (.int .i64 (M.a:Nat)):=by rw[XJ 1];simp
           have h6:av _ c P b0 g { M with a:=M.a+n } S:= ⟨c6,ac,VR⟩;have j0:=h6.cell.cell (i:=0) ω;rw[show dF { M with a:=M.a+n } S 0= .pointer (some ⟨M.gi,0,none⟩) from rfl]at j0;have s0:=h6.ir.cell.cell (i:=0) ω;have s1:=h6.ir.cell.cell (i:=1) ω;have z0:=h6.ir.cell.frozen' (i:=0) ω;have z1:=h6.ir.cell.frozen' (i:=1) ω;have h7:=av.bR C N (h6.restore (a':=M.a) r.ir.le);clear XJ ac VR
           go_wp2_with fail
           go_region
           all_goals
            go_wp2_with fail
            go_ret
            exact eN.lack (by rw[u.out]) h7.drew b rfl
         · have G:=η (fX.out.trans (if_neg y));unfold IS.fB at G;have mC:=cO (hO.bit.bu n) (IS.rW K);have an:2 ^ IS.rW K<=2 ^ 7:=Nat.pow_le_pow_right ω (by rcases m with rfl | rfl | rfl <;> decide);have am:IS.rB K<=11:=by rcases m with rfl | rfl | rfl <;> decide
           obtain⟨D,W5⟩ :∃D:Int,D=if K=16 then ix t.lens (t.lens.length-1)else 0:= ⟨_,rfl⟩
           have oY:rb ({ M with a:=M.a+n }:DM).B ({ M with a:=M.a+n }:DM).a=t.x.drop n:=oA.out;obtain⟨T,hT⟩ :=ν (IS.rB K+num (t.x.drop n) (IS.rW K));have Y:=Rh h5 K m (by rw[oY];omega) qo (by show M.nl<=1000;omega) (T:Int) D (by rw[oY,hT]) (by rw[W5];show _=if K=16 then ix M.lens (M.lens.length-1)else 0;rw[b.lens]);rw[hT]at G;rw[<-W5]at G;have Wf:(0:Int)<=T/\(T:Int)<=200:=ω;have J:=η Y;have O3:Hid (rb M.B (M.a+n+IS.rW K)=(t.x.drop n).drop (IS.rW K)):=by show _=_;rw[<-fR,oA.out]
           have al:IntKind.i64.wrap ((M.nl:Int)+(T:Int))=(M.nl:Int)+(T:Int):=IntWalk.i64_in _ ω;have UH:IntKind.i64.wrap ((S.c0:Int)+(S.c1:Int))=(S.c0:Int)+(S.c1:Int):=IntWalk.i64_in _ ω;have CA:Hid ((S.c0:Int)+(S.c1:Int)<(M.nl:Int)+(T:Int)↔t.c0+t.c1<t.lens.length+T):=by show _↔_;rw[<-b.c0,<-b.c1,<-kT.out];omega
           clear mC an am hT Y y fX qo W5 oY v;generalize IS.rW K=W at*;have ap:K=16\/K=17\/K=18:=m;clear m
           go_wp2_with fail
           refine J.out.mono ?_;rintro e P ⟨rfl,h6⟩;obtain⟨-, -, -, -, -, -, -, -,j8,j9, -,ah, -⟩ :=h6.cells;by_cases eK:(S.c0:Int)+(S.c1:Int)<(M.nl:Int)+(T:Int)
           · have u:=η (G.out.trans (if_pos (CA.out.1 eK)));have h7:=av.bR C N h6.drew;clear G CA
             go_wp2_with fail
             go_region
             all_goals
              go_wp2_with fail
              go_ret
              exact eN.bad u.out δ δ δ rfl h7 rfl
           · have u:=η (G.out.trans (if_neg (λh=>eK (CA.out.2 h))));clear G CA
             go_wp2_with fail
             go_region
             all_goals
              go_wp2_with fail
              go_loopg [89] T (a3b (w.alloc (.cells #[.slice M.Ai M.ni M.ci, .int .i64 (M.a:Nat)] 104)).drew c b0 g { M with a:=M.a+n+W } S T D)
              case atStart=>exact⟨0,M.Al,M.nl,M.cl,Nat.zero_le _,rfl,rfl,by rw[List.replicate_zero,List.append_nil];exact h6.drew⟩
              case round=>
               clear h6 al UH j8 j9 ah;obtain⟨j,A2,Q,c2,hj,hk,rfl,h6⟩ :=hrel;by_cases aS:(j:Int)<(T:Int)
               · obtain⟨-, -, -, -, -, -, -, -, -, -, -,v, -⟩ :=h6.cells;have eD:=h6.lens.alloc (.cells #[.int .i64 D] 3);have A:=h6.lo;have jh:Q=(M.lens++List.replicate j D).length:=h6.lens.1;rw[List.length_append,List.length_replicate,<-r.lens.1]at jh;have ao:Q+1<=1000000000000:=ω;have aI:(0:Int)<=Q:=ω;clear jh
                 go_wp2_with (at_builtin;(refine au .i64 b0 3 i0 8 rfl (.tmp 95) (.tmp 97) _ rfl Tryz.underlying51 Hi.out dM.out cV.out dN.out rfl eD rfl (aT.lit .i64 wr [D] 3) ao ω ξ ?_)
                              intro A4 d4 w4 aC z bG;have dG:=(h6.cell.alloc (.cells #[.int .i64 D] 3)).grown z (λe=>h6.apart.2.1 e.symm);have Zb:=dG.cell (i:=11) ω;have ad:=dG.frozen' (i:=11) ω)
                 have h7:=h6.push D z aC bG;go_roundg (gk-1)
                 case measure=>have:=hk.out;omega
                 case rel=>
                  refine⟨j+1,A4,Q+1,d4,ω,by show gk-1=_;have:=hk.out;omega,by go_num, ?_⟩;rw[List.replicate_succ',<-List.append_assoc];exact h7
               · obtain rfl:j=T:=ω;have h7:=av.bR C N h6
                 go_wp2_with fail
                 go_ret
                 exact eN.go u.out f.out rfl h7 ⟨O3.out,b.st,b.last,b.left,b.c0,b.c1,b.c2,by show M.lens++List.replicate _ _=t.lens++List.replicate _ _;rw[b.lens],λ_=>b.hd f.out,λe=>by simp [f.out]at e,λe=>by simp [f.out]at e,λe=>by simp [f.out]at e,b.tail,b.rem,b.err⟩ rfl
  · have wA:(E==0)=false:=by simpa using lr
    have I:=q.out lr;have u:=η (d.out.trans (if_pos lr));have WH:=η (eZ.out.resolve_left lr);clear q eZ jL d ku;subst I;have h6:=av.bR C N h5
    go_wp2_with fail
    go_ret
    rcases WH.out with he | he
    · subst he;exact eN.bad u.out δ δ δ rfl h6 rfl
    · subst he;exact eN.lack (by rw[u.out]) h6 b rfl
end
section
variable {w w' w0 w2:World} {b0 g:Nat} {c c0:Nat->Nat} {M M':DM} {S S':DS} {s t t':IS} {b:List Int} {v:Int}
theorem av.VC (h:av w0 c0 w b0 g M S):av w0 c0 (w.setCell ⟨g,13,none⟩ (.pointer none)) b0 g { M with lp:=none,lt:=none } S/\av w0 c0 (w.setCell ⟨g,14,none⟩ (.pointer none)) b0 g { M with dp:=none,ds:=none } S:=by
 obtain⟨c,a,hd⟩ :=h;have m:aa M.Ao≠some g:=λe=>by have:=a.co g e;have:=a.cg;omega
 have t:aa M.Al≠some g:=λe=>by have:=a.cl g e;have:=a.cg;omega
 have n:∀(i:Nat) (v:Value) (M':DM),i<16->(∀j,j<16->upd (dF M S) i v j=dF M' S j)->M'={ M with hp:=M'.hp,lp:=M'.lp,dp:=M'.dp,hd:=M'.hd,lt:=M'.lt,ds:=M'.ds }->
   (∀l,M'.hd=some l->gg w b0 c M'.hp l)->(∀l,M'.lt=some l->gg w b0 c M'.lp l)->(∀l,M'.ds=some l->gg w b0 c M'.dp l)->av w0 c0 (w.setCell ⟨g,i,none⟩ v) b0 g M' S:=by
  intro i v M' hi hF u s r o;have d:aq w (w.setCell ⟨g,i,none⟩ v) (λk=>k=g):=(aq.refl w (λk=>k=g)).setCell (p:= ⟨g,i,none⟩) (.inl rfl) v;have f:∀{p l},gg w b0 c p l->gg (w.setCell ⟨g,i,none⟩ v) b0 c p l:=λht=>ht.cv d (λk b=>by subst b;rw[a.cg];decide) λ_ _=>rfl
  refine⟨c, ⟨(a.cell.aQ hi v).congr hF,a.cg, ?_, ?_, ?_, ?_, ?_, ?_, ?_, ?_,λl q=>f (s l q),λl q=>f (r l q),λl q=>f (o l q),λk b=> ⟨(a.cb k b).1,Nat.lt_of_lt_of_le (a.cb k b).2 d.size⟩, ?_⟩,
   hd.step a.lo (λk b=>(a.cb k b).1) (d.more λk b=>by subst b;rw[a.cg];decide) λ_ _=>rfl⟩
  all_goals rw[u]
  · exact a.ir.cv d (λk b e=>by have:=a.cr k b;have:=a.cg;subst e;omega)
  · exact a.cr
  · exact a.Bf.cv d (λk b e=>by have:=a.cw k b;have:=a.cg;subst e;omega)
  · exact a.cw
  · exact d.bf a.out (λk b e=>by subst e;exact m b)
  · exact a.co
  · exact d.bf a.lens (λk b e=>by subst e;exact t b)
  · exact a.cl
  · exact a.bB
 exact⟨n 13 _ _ ω (bN rfl rfl rfl rfl rfl rfl rfl rfl rfl rfl rfl rfl rfl rfl rfl rfl) rfl a.th (λl q=>by simp at q) a.td,n 14 _ _ ω (bN rfl rfl rfl rfl rfl rfl rfl rfl rfl rfl rfl rfl rfl rfl rfl rfl) rfl a.th a.tl (λl q=>by simp at q)⟩
def Ho (w w':World) (l:List Int) (most:Int) (p:Option Addr):Prop:=
 Below w.heap.size w w'/\((ai l most=0/\∃g,p=some ⟨g,0,none⟩/\sT w' w.heap.size w'.heap.size g l)\/(ai l most≠0/\p=none))
theorem xp (w:World) (A:Option Addr) (n c B:Nat) (l:List Int) (most:Int) (a:aT .i64 w B A n l) (i:B<=w.heap.size) (b:n<=288) (E:Int) (f:ai l most=E):
  Calls Tryz.prog 87 #[.slice A n c, .int .i64 most] w λe w'=>∃p,e= .returned (.tuple #[.pointer p, .int .i64 E])/\Ho w w' l most p:=by
 subst f;by_cases h:ai l most=0
 · refine(jt w A n c B l most a i b h).mono ?_;rintro e w' ⟨g,rfl,ht,d⟩;exact⟨_,by rw[h],d, .inl ⟨h,g,rfl,ht⟩⟩
 · refine(C9 w A n c B l most a ω h).mono ?_;rintro e w' ⟨rfl,rfl⟩;exact⟨_,rfl,Below.refl _ _, .inr ⟨h,rfl⟩⟩
theorem av.a2L (h:av w0 c0 w b0 g M S) {l:List Int} {p:Option Addr} {most:Int} (ht:Ho w w' l most p) (f:l.length<=288):
  (∃o,(ai l most=0->o=some l)/\av w0 c0 (w'.setCell ⟨g,13,none⟩ (.pointer p)) b0 g { M with lp:=p,lt:=o } S)/\
  (∃o,(ai l most=0->o=some l)/\av w0 c0 (w'.setCell ⟨g,14,none⟩ (.pointer p)) b0 g { M with dp:=p,ds:=o } S):=by
 obtain⟨d, ⟨c,j,rfl,i⟩ | ⟨c,rfl⟩⟩ :=ht
 · obtain⟨-,a,b⟩ :=h.SZ d i f;exact⟨⟨_,λ_=>rfl,a⟩, ⟨_,λ_=>rfl,b⟩⟩
 · obtain⟨a,b⟩ :=(h.keeps d).VC;exact⟨⟨_,λe=>absurd e c,a⟩, ⟨_,λe=>absurd e c,b⟩⟩
def ZM (w0:World) (c0:Nat->Nat) (b0 g:Nat) (M:DM) (S:DS) (s:IS) (k:Nat) (wr:World):Prop:=
 ∃M' t,av w0 c0 wr b0 g M' S/\IS.Steps s t/\Live M' S t/\t.Ok/\t.st=5/\M'.out=M.out/\t.all=s.all/\Hid (k=t.mu)/\Hid (t.mu<=s.mu)
def Tz (w0:World) (c0:Nat->Nat) (b0 g:Nat) (M:DM) (S:DS) (l:List Int) (wx:World):Prop:=∃p o,(ai l 15=0->o=some l)/\av w0 c0 wx b0 g { M with lp:=p,lt:=o } S
def TA (w0:World) (c0:Nat->Nat) (b0 g:Nat) (M:DM) (S:DS) (l:List Int) (wx:World):Prop:=∃p o,(ai l 15=0->o=some l)/\av w0 c0 wx b0 g { M with dp:=p,ds:=o } S
theorem yY (h:av w0 c0 w b0 g M S) (c:Live M S s) (hO:s.Ok) (d:s.st=5):
  Calls Tryz.prog 104 #[.pointer (some ⟨g,0,none⟩)] w (aj w0 c0 b0 g M s):=by
 obtain⟨i0,hi,K,J,I⟩ :=info_parts iF;have Hi:=η hi;have dM:=η K;have cV:=η J;have dN:=η I;clear hi K J I;go_enter Tryz.func104,Tryz.ntmps104
 go_wp2
 go_loopg [] s.mu (ZM w0 c0 b0 g M S s)
 case atStart=>exact⟨M,s,h, .refl s,c,hO,d,rfl,rfl,rfl,Nat.le_refl _⟩
 case round=>
  clear h c hO d;obtain⟨a,t,h,Q,c,hO,d,R,f,hk,U⟩ :=hrel;obtain⟨O,Su,Sv,Sw⟩ :=hO.h5 d;have V:=hO.cc (.inr d);obtain⟨-, -, -, -, -, -, -, -,k8,k9, -,G, -⟩ :=h.cells;have bT:=h.lens.1;rw[c.lens]at bT;have Ex:(0:Int)<=a.nl/\(a.nl:Int)<=316/\(257:Int)<=S.c0/\(S.c0:Int)<=286/\(1:Int)<=S.c1/\(S.c1:Int)<=30/\(a.nl:Int)<=(S.c0:Int)+(S.c1:Int):=by have:=c.c0;have:=c.c1;omega
  have D:=η c.c0;have BI:=η c.c1;have kT:=η bT;have bb:=η d;have UH:IntKind.i64.wrap ((S.c0:Int)+(S.c1:Int))=(S.c0:Int)+(S.c1:Int):=IntWalk.i64_in _ ω;by_cases aI:(a.nl:Int)<(S.c0:Int)+(S.c1:Int)
  · have gY:=Cf h.drew c hO d (by have:=D.out;have:=BI.out;have:=kT.out;omega);have tW:=η gY;clear gY bT d O Su Sv Sw V
    go_wp2_with fail
    go_region
    all_goals
     go_wp2_with fail
     refine tW.out.mono ?_;rintro e w1 ⟨M2,v,t2,rfl,m,r,X,am⟩;rcases am with ⟨rfl,b,u,A⟩ | ⟨rfl,b,rfl,A⟩ | ⟨N,ah,ac,b⟩
     · have B:=η b;have LU:=η u;have C:=η r;have QH:=η X;have kL:Hid (t2.mu<t.mu):=by have:=IS.ek (s:=t) (by rw[b]);rw[b]at this;exact this
       clear b u r X
       go_wp2_with fail
       go_roundg t2.mu
       case measure=>have:=hk.out;have:=kL.out;omega
       case rel=>
        have rr:=hO.step (.inl (by rw[B.out]));have fX:=IS.Steps.tail Q (by rw[B.out]);rw[B.out]at rr fX;exact⟨M2,t2,m,fX,A,rr,LU.out,C.out.trans R,QH.out.trans f,rfl,Nat.le_trans (Nat.le_of_lt kL.out) U.out⟩
     · have B:=η b;have C:=η r;clear b r X
       go_wp2_with fail
       go_ret
       exact aj.after Q U.out f R (aj.lack B.out m A C.out)
     · have B:=η b;have C:=η r;have QH:=η X;have aE:(v==0)=false:=by simpa using N
       clear b r X
       go_wp2_with fail
       go_ret
       exact aj.after Q U.out f R (aj.pV B.out N ah ac QH.out m c.err C.out)
  · have gH:¬t.lens.length<t.c0+t.c1:=by have:=D.out;have:=BI.out;have:=kT.out;omega
    have y:=η (D9 d gH);have df:=h.lens.2.fD;have T:a.nl=S.c0+S.c1:=ω;obtain⟨F,wA⟩ :=ν (ai (t.lens.take t.c0) 15);obtain⟨E,sX⟩ :=ν (ai (t.lens.drop t.c0) 15);have Oa:=dr (P:=Tryz.prog) 51 3 Tryz.underlying51 Hi.out cV.out a.Al a.nl a.cl (j:=S.c0) ω;have CQ:=bE (P:=Tryz.prog) 51 3 Tryz.underlying51 Hi.out cV.out a.Al a.nl a.cl (j:=S.c0) ω
    have En:Hid (∀W,ag .i64 W b0 3 a.Al a.nl a.cl a.lens->Calls Tryz.prog 87 #[.slice a.Al S.c0 a.cl, .int .i64 15] W λe w'=>∃p,e= .returned (.tuple #[.pointer p, .int .i64 F])/\Ho W w' (t.lens.take t.c0) 15 p):=λW hW=>by
     rw[<-D.out,<-c.lens];exact xp W a.Al S.c0 a.cl _ _ 15 (hW.rd.pre ω) (Nat.le_refl _) ω F (by rw[D.out,c.lens];exact wA)
    have J4:Hid (∀W,ag .i64 W b0 3 a.Al a.nl a.cl a.lens->Calls Tryz.prog 87 #[.slice (bY a.Al a.cl S.c0) (a.nl-S.c0) (a.cl-S.c0), .int .i64 15] W λe w'=>∃p,e= .returned (.tuple #[.pointer p, .int .i64 E])/\Ho W w' (t.lens.drop t.c0) 15 p):=λW hW=>by
     rw[<-D.out,<-c.lens];exact xp W (bY a.Al a.cl S.c0) (a.nl-S.c0) (a.cl-S.c0) _ _ 15 (hW.rd.bY ω df) (Nat.le_refl _) ω E (by rw[D.out,c.lens];exact sX)
    have Hg:=η wA;have QK:=η sX
    have S9:Hid ((t.lens.take t.c0).length<=288/\(t.lens.drop t.c0).length<=288):=by
     show _/\_
     rw[List.length_take,List.length_drop];have:=D.out;have:=BI.out;have:=kT.out;omega
    have a5S:=η df;have a5X:=η T;have rE:(256:Int)<(a.nl:Int):=ω;clear wA sX df T gH d O Su Sv Sw V bT;have hd:=h.drew
    go_wp2_with fail
    go_region
    all_goals
     go_wp2_with fail
     go_cut [4] (λs4 wx=>s4= .int .i64 F/\Tz w0 c0 b0 g a S (t.lens.take t.c0) wx)
     case first=>
      go_region_law
       ((go_simp;go_at_call 87;(refine(En.out _ (by first | exact h.drew.drew.lens | exact h.drew.lens | exact(h.drewN _).lens)).mono ?_))
        rintro e w5 ⟨p,rfl,Y⟩;have q:=av.keeps (by first | exact h.drew.drew | exact h.drew | exact h.drewN _) Y.1;have ao:=q.cell.frozen' (i:=13) ω;have aC:=q.cell.cell (i:=13) ω)
      all_goals
       have aA:Tz w0 c0 b0 g a S (t.lens.take t.c0) (w5.setCell ⟨g,13,none⟩ (.pointer p)):=by
        obtain⟨⟨o,l,m⟩, -⟩ :=av.a2L (by first | exact h.drew.drew | exact h.drew | exact h.drewN _) Y S9.out.1;exact⟨p,o,l,m⟩
       go_wp2_with fail
       go_meet
       exact⟨rfl,aA⟩
     case rest=>
      obtain⟨rfl,p1,o1,oz,l⟩ :=hcut;have an:=η oz;clear oz k8 k9 G hd;obtain⟨-, -, -, -, -, -, -, -,k8,k9, -,G, -⟩ :=l.cells
      go_wp2_with fail
      go_cut [5] (λs5 wx=>s5= .int .i64 E/\TA w0 c0 b0 g { a with lp:=p1,lt:=o1 } S (t.lens.drop t.c0) wx)
      case first=>
       go_region_law
        ((go_simp;go_at_call 87;(refine(J4.out _ (by first | exact l.lens | exact l.drew.lens | exact(l.drewN _).lens)).mono ?_))
         rintro e w5 ⟨p,rfl,Y⟩;have q:=av.keeps (by first | exact l | exact l.drew | exact l.drewN _) Y.1;have z14:=q.cell.frozen' (i:=14) ω;have ap:=q.cell.cell (i:=14) ω)
       all_goals
        have aA:TA w0 c0 b0 g { a with lp:=p1,lt:=o1 } S (t.lens.drop t.c0) (w5.setCell ⟨g,14,none⟩ (.pointer p)):=by
         obtain⟨-, ⟨o,l,m⟩⟩ :=av.a2L (by first | exact l | exact l.drew | exact l.drewN _) Y S9.out.2;exact⟨p,o,l,m⟩
        go_wp2_with fail
        go_meet
        exact⟨rfl,aA⟩
      case rest=>
       obtain⟨rfl,p2,o2,r,m⟩ :=hcut;have C:=η r;clear r k8 k9 G;obtain⟨-, -, -, -, -,k5, -, -, -, -, -,G, -⟩ :=m.cells;have z5:=m.cell.frozen' (i:=5) ω;obtain⟨ad,hA,aS,F0⟩ :=m.lens.rd.at_ (i:=256) (by show 256<a.nl;omega);have oT:a.Al=some ad:=hA;obtain⟨x,hx⟩ :=ν (ix a.lens 256);have a05:wc.cell? ⟨ad.block,ad.off+256,none⟩ =some (.int .i64 x):=by rw[<-hx,<-BR ad (k:=256) ω];exact F0
       have ab:Hid (ix t.lens 256=x):=by show _=_;rw[<-c.lens];exact hx
       have a7o:wc.cell? ⟨g,11,none⟩ =some (.slice (some ad) a.nl a.cl):=by rw[<-oT];exact G
       obtain⟨Bd,Et⟩ :=ν (decide (F≠0\/E≠0\/x=0));have n:=η Et;have HA:=η oT;have h3:av w0 c0 wc b0 g { a with lp:=p1,lt:=o1,dp:=p2,ds:=o2 } S:=m;clear Et hA oT hx F0 G l m
       go_upto_region 8 with fail
       go_cut [76] (λs wx=>s= .bool Bd/\wx=wc)
       case first=>
        by_cases H:F=0
        · by_cases Z:E=0
          · by_cases e3:x=0
            · have hd:Hid (true=Bd):=by show _=_;rw[<-n.out];exact(decide_eq_true (.inr (.inr e3))).symm
              clear n;subst H Z e3
              go_wp2_with fail
              go_meet
              exact⟨congrArg Value.bool hd.out,rfl⟩
            · have hd:Hid (false=Bd):=by show _=_;rw[<-n.out];exact(decide_eq_false (λh=>by rcases h with h | h | h;exact h H;exact h Z;exact e3 h)).symm
              have L:(x==0)=false:=by simpa using e3
              clear n;subst H Z
              go_wp2_with fail
              go_meet
              exact⟨congrArg Value.bool hd.out,rfl⟩
          · have hd:Hid (true=Bd):=by show _=_;rw[<-n.out];exact(decide_eq_true (.inr (.inl Z))).symm
            have L:(E==0)=false:=by simpa using Z
            clear n;subst H
            go_wp2_with fail
            go_meet
            exact⟨congrArg Value.bool hd.out,rfl⟩
        · have hd:Hid (true=Bd):=by show _=_;rw[<-n.out];exact(decide_eq_true (.inl H)).symm
          have L:(F==0)=false:=by simpa using H
          clear n
          go_wp2_with fail
          go_meet
          exact⟨congrArg Value.bool hd.out,rfl⟩
       case rest=>
        obtain⟨rfl,rfl⟩ :=hcut;have u:=η y.out;rw[Hg.out,QK.out,ab.out]at u;clear y;by_cases z:F≠0\/E≠0\/x=0
        · have b:=η (u.out.trans (if_pos z));rw[<-n.out,decide_eq_true z];clear z u n
          go_wp2_with fail
          go_ret
          exact aj.after Q U.out f R (aj.pV b.out δ δ δ rfl h3 c.err rfl)
        · have b:=η (u.out.trans (if_neg z));have sZ:=η (an.out (by rw[Hg.out];exact Decidable.not_not.1 λh=>z (.inl h)));have al:=η (C.out (by rw[QK.out];exact Decidable.not_not.1 λh=>z (.inr (.inl h))));rw[<-n.out,decide_eq_false z];have h4:=h3.put (i:=5) ω (.int .i64 6) { S with st:=6 } (bN rfl rfl rfl rfl rfl rfl rfl rfl rfl rfl rfl rfl rfl rfl rfl rfl);clear z u n
          go_wp2_with fail
          go_ret
          exact aj.after Q U.out f R (aj.MW b.out rfl h4 ⟨c.x,rfl,c.last,c.left,c.c0,c.c1,c.c2,c.lens,λe=>by simp at e,λ_=>sZ.out,λ_=>al.out,λe=>by simp at e,c.tail,c.rem,c.err⟩ rfl)
end
section
variable {w w' w0 w2:World} {b0 g:Nat} {c c0:Nat->Nat} {M M':DM} {S S':DS} {s t t':IS} {b:List Int} {v:Int}
theorem sf (h:av w0 c0 w b0 g M S) (d:Nat) (v:d<=8*M.B.length) (B:Int) (N:Nat) (t:(rb M.B M.a).length<N):
  Calls Tryz.prog 125 #[.pointer (some ⟨g,0,none⟩), .agg #[.slice M.Ai M.ni M.ci, .int .i64 d], .int .i64 B, .int .i64 N] w λe w'=>e= .returned (.tuple #[.int .i64 0, .int .i64 5])/\av w0 c0 w' b0 g { M with a:=d } S:=by
 obtain⟨c,f,hD⟩ :=h;have b:Below w.heap.size w (w.alloc (.cells #[.slice M.Ai M.ni M.ci, .int .i64 (d:Nat)] 104)):=((Below.refl _ w).alloc (Nat.le_refl _) _);have r:=f.keeps b;have x:=hD.step (c':=c) f.lo (λk u=>(f.cb k u).1) (aq.aB b) (λ_ _=>rfl)
 have o:c w.heap.size=0:=by
  by_cases e:c w.heap.size=0
  · exact e
  · have:=(f.cb _ e).2;omega
 have I:M.gi<w.heap.size:=f.ir.cell.lt;have H:g<w.heap.size:=f.cell.lt;have z:=η o;have q:=jx r.refl N (.inr (.inr ω));have V4:=η q;clear o q t b;go_enter Tryz.func125,Tryz.ntmps125
 go_wp2_with fail
 refine V4.out.mono ?_;rintro e l ⟨rfl,h6⟩;obtain⟨y,j,n⟩ :=h6;have m:∀i,l.cell? ⟨w.heap.size,i,none⟩ =(w.alloc (.cells #[.slice M.Ai M.ni M.ci, .int .i64 (d:Nat)] 104)).cell? ⟨w.heap.size,i,none⟩ :=λi=>n.2.1.cell (p:= ⟨w.heap.size,i,none⟩) σ (λe=>e z.out)
 have E:l.cell? ⟨w.heap.size,0,none⟩ =some (.slice M.Ai M.ni M.ci):=by rw[m 0];simp
 have D:l.cell? ⟨w.heap.size,1,none⟩ =some (.int .i64 (d:Nat)):=by rw[m 1];simp
 have h6:av _ c l b0 g M S:= ⟨y,j,n⟩;have s:=h6.cell.cell (i:=0) ω;rw[show dF M S 0= .pointer (some ⟨M.gi,0,none⟩) from rfl]at s;have G:=h6.ir.cell.cell (i:=0) ω;have F:=h6.ir.cell.cell (i:=1) ω;have C:=h6.ir.cell.frozen' (i:=0) ω;have A:=h6.ir.cell.frozen' (i:=1) ω;have h7:=av.bR r x (h6.restore (a':=d) v);clear m j n
 go_wp2_with fail
 go_region
 all_goals
  go_wp2_with fail
  go_ret2
  exact⟨rfl,h7.drew⟩
theorem xu (h:av w0 c0 w b0 g M S) (x:Value) (r:∃A n c a,x= .agg #[.slice A n c, .int .i64 a]) (B:Int) (y:0<=B/\B<=100000) (N:Nat) (l:N<=20) (j:N<=(rb M.B M.a).length) (V:Int) (i:V=B+((num (rb M.B M.a) N:Nat):Int)):
  Calls Tryz.prog 125 #[.pointer (some ⟨g,0,none⟩),x, .int .i64 B, .int .i64 N] w λe w'=>e= .returned (.tuple #[.int .i64 V, .int .i64 0])/\av w0 c0 w' b0 g { M with a:=M.a+N } S:=by
 obtain⟨q,m,o,p,rfl⟩ :=r;have d:Below w.heap.size w (w.alloc (.cells #[.slice q m o, .int .i64 p] 104)):=((Below.refl _ w).alloc (Nat.le_refl _) _);have t:=h.keeps d;have b:=cO (bc.rb M.B M.a) N;have hp:2 ^ N<=2 ^ 20:=Nat.pow_le_pow_right ω l;have f:=qc t N ω j;obtain⟨U,k⟩ :=ν (num (rb M.B M.a) N);rw[k]at i f b;have s:(0:Int)<=U/\(U:Int)<1048576:=ω;have V4:=η f;have u:=η i;clear f j d i k b hp l;go_enter Tryz.func125,Tryz.ntmps125
 go_wp2_with fail
 refine V4.out.mono ?_;rintro e v ⟨rfl,h6⟩
 go_wp2_with fail
 go_ret2
 exact⟨by rw[u.out];rfl,h6⟩
theorem F7 {out a:List Int} (h:pS out a) {D N:Nat} (c:1<=D) (b:D<=a.length):Hz a D N=again out D N:=by
 unfold Hz again;refine List.map_congr_left λi _=> ?_
 rw[<-ia,h.back b,ia]
end
section
variable {w w' w0 w2:World} {b0 g:Nat} {c c0:Nat->Nat} {M M':DM} {S S':DS} {s t t':IS} {b:List Int} {v:Int}
theorem Fm (h:av w0 c0 w b0 g M S) (d:Live M S t) (hO:t.Ok) (z:t.st=6) (jI:M.out.length<=10000000000) (eP:(t.rem:Int)<=4611686018427387904):
  Calls Tryz.prog 105 #[.pointer (some ⟨g,0,none⟩)] w (aj w0 c0 b0 g M t):=by
 obtain⟨c,r,hD⟩ :=h;have F:Below w.heap.size w (w.alloc (.cells #[.slice M.Ai M.ni M.ci, .int .i64 (M.a:Nat)] 104)).drew:=((Below.refl _ w).alloc (Nat.le_refl _) _).drew;have y:=r.keeps F;have H:=hD.step (c':=c) r.lo (λk A=>(r.cb k A).1) (aq.aB F) (λ_ _=>rfl);have h1:=y.refl;obtain⟨t0,B,gt,hp,CS,Qf,jS,bb⟩ :=h1.a5G (d.lt (.inl z))
 have oU:c w.heap.size=0:=by
  by_cases e:c w.heap.size=0
  · exact e
  · have:=(r.cb _ e).2;omega
 have Wt:M.gi<w.heap.size:=r.ir.cell.lt;have kJ:g<w.heap.size:=r.cell.lt;have N:=rV _ t0 B gt b0 M.gi M.ni M.ci M.a M.Ai t.lt M.B CS jS y.ir (Nat.le_trans r.bB ω) Qf bb;unfold gN at N;have hb:=d.x;rw[hb]at N;have f:Hid (t.step=t.token):=E9 z;unfold IS.token at f;obtain⟨K,hK⟩ :=ν ((ae t.lt t.x).1);obtain⟨n,T⟩ :=ν ((ae t.lt t.x).2.1);obtain⟨E,Z⟩ :=ν ((ae t.lt t.x).2.2);have o:Hid (E≠0->n=0):=λh=>by rw[<-T];exact(nC (by rw[Z];exact h)).2
 have eZ:Hid (E=0\/E=3\/E=5):=by have:=bK t.lt t.x;rw[Z]at this;exact this
 have jL:Hid (E=0->0<=K/\K<288/\n<=t.x.length):=λh=>by
  obtain⟨k2,n2,e1,e2,e3,e4,e5⟩ :=ie (l:=t.lt) (x:=t.x) hO.bit (by rw[Z,h];simp);rw[e1]at hK T;simp at hK T;omega
 rw[hK,T,Z]at N f;have ku:=η N;have Ox:=r.cell.cell (i:=13) ω;rw[show dF M S 13= .pointer (some ⟨gt,0,none⟩) from congrArg Value.pointer hp]at Ox;have k0:=r.cell.cell (i:=0) ω;rw[show dF M S 0= .pointer (some ⟨M.gi,0,none⟩) from rfl]at k0;have r0:=r.ir.cell.cell (i:=0) ω;have r1:=r.ir.cell.cell (i:=1) ω;rw[show rf M.Ai M.ni M.ci M.a 0= .slice M.Ai M.ni M.ci from rfl]at r0;rw[show rf M.Ai M.ni M.ci M.a 1= .int .i64 (M.a:Nat) from rfl]at r1;have HB:=η hb;have aC:=η hp;have q:=η z;have Ld:=η oU;clear N hK T Z hp hb z CS Qf jS bb h1 oU F;go_enter Tryz.func105,Tryz.ntmps105
 go_wp2_with fail
 go_cut [4,5] (λs4 s5 wx=>s4= .int .i64 K/\s5= .int .i64 E/\kd wx b0 M.gi M.Ai M.ni M.ci M.B (M.a+n)/\aq (w.alloc (.cells #[.slice M.Ai M.ni M.ci, .int .i64 (M.a:Nat)] 104)).drew wx (λk=>k=M.gi))
 case first=>
  go_region_law
   ((go_simp;go_at_call 124;(refine ku.out.mono ?_))
    rintro e w5 ⟨rfl,lF,W⟩)
  all_goals
   go_wp2_with fail
   go_meet
   exact⟨rfl,rfl,lF,W⟩
 case rest=>
  obtain⟨rfl,rfl,lF,W⟩ :=hcut;have h5:=y.refl.moved W lF;have x0:wc.cell? ⟨w.heap.size,0,none⟩ =some (.slice M.Ai M.ni M.ci):=by rw[W.cell (p:= ⟨w.heap.size,0,none⟩) σ (by show¬w.heap.size=M.gi;omega)];simp
  have x1:wc.cell? ⟨w.heap.size,1,none⟩ =some (.int .i64 (M.a:Nat)):=by rw[W.cell (p:= ⟨w.heap.size,1,none⟩) σ (by show¬w.heap.size=M.gi;omega)];simp
  have R:Hid (rb M.B (M.a+n)=t.x.drop n):=by show _=_;rw[<-fR,HB.out]
  have eK:=r.bB;have UD:=d.rem;clear lF;by_cases Y:E=0
  · subst Y;obtain⟨Ia,RA,N⟩ :=jL.out rfl;have eE:=η (f.out.trans (if_neg δ));clear o eZ jL f ku;by_cases oD:K<256
    · have m:=η (eE.out.trans (if_pos oD));unfold IS.emit at m;have O:Hid (S.most=t.rem):=UD;have aS:=aT.lit .u8 wc [K] 5;have jf:Below wc.heap.size wc (wc.alloc (.cells ([K].map (Value.int .u8)).toArray 5)):=(Below.refl _ wc).alloc (Nat.le_refl _) _;have h6:=h5.keeps jf;have Qm:Hid (∀k,foot M.Aw M.gw k->k<wc.heap.size):=λk A=>(h5.Bf.bH A).2
      obtain⟨-,k1, -⟩ :=h6.cells;rw[show([K].map (Value.int .u8)).toArray= #[Value.int .u8 K] from rfl]at k1;have X:=pH _ _ _ _ _ _ _ 1 _ _ _ _ h6.Bf aS σ σ;have a2V:=η X;clear eE UD X jf
      go_wp2_with fail
      refine a2V.out.mono ?_;rintro e w7 ⟨A7,n7,c7,rfl,Qx,Lq,wB⟩
      have h7:=h6.vU Lq Qx (λk A=>by
       rcases A with A | A
       · exact .inl (.inl A)
       · exact(wB k A).imp (λe=> .inr e) id)
      have ah:=Lq.oH aS σ (λ_ ad hA hf=>by
       injection hA with hA;subst hA;have:=Qm.out _ hf;simp at this)
      have D:=ri h7 _ 1 1 _ [K] ah (by have:=Lq.size;simp at this;omega) (Nat.le_refl _) ω jI (by show((S.most:Nat):Int)<=_;rw[O.out];exact eP);unfold iK at D;by_cases hz:t.rem=0
      · rw[if_pos (show S.most < [K].length by rw[O.out,hz];simp)]at D;have EE:=η D;have HZ:=η hz;clear D hz
        go_wp2_with fail
        refine EE.out.mono ?_;rintro e w8 ⟨A8,n8,c8,rfl,I⟩
        go_wp2_with fail
        go_ret
        have C:t.step=({ t with x:=t.x.drop n,a8:=t.a8++[aF.mk K 0 0],all:=t.all++[K].take t.rem,rem:=t.rem - [K].length },6):=m.out.trans (by rw[if_pos (by rw[HZ.out];simp)]);refine aj.bad (b:=[K].take t.rem) C δ δ δ rfl (by rw[List.length_take];simp;omega) (av.bR y H I) d.err (by rw[O.out])
      · rw[if_neg (show¬S.most < [K].length by rw[O.out];simp;omega)]at D;have EE:=η D;have HZ:Hid ([K].take t.rem=[K]):=List.take_of_length_le ξ;have am:Hid (¬t.rem < [K].length):=by show¬_;simp;omega
        clear D hz
        go_wp2_with fail
        refine EE.out.mono ?_;rintro e w8 ⟨A8,n8,c8,rfl,I⟩
        go_wp2_with fail
        go_ret
        have C:t.step=({ t with x:=t.x.drop n,a8:=t.a8++[aF.mk K 0 0],all:=t.all++[K].take t.rem,rem:=t.rem - [K].length },0):=m.out.trans (by rw[if_neg am.out]);refine aj.go (b:=[K].take t.rem) C rfl (by rw[HZ.out];simp) (av.bR y H I) ⟨R.out,d.st,d.last,d.left,d.c0,d.c1,d.c2,d.lens,λe=>by simp [q.out]at e,λ_=>d.lt (.inl q.out),λ_=>d.ds (.inl q.out),λe=>by simp [q.out]at e, ?_, ?_,d.err⟩ (by rw[O.out])
        · show pS (t.all++[K].take t.rem) _
          rw[HZ.out];exact d.tail.add [K]
        · show S.most - [K].length=t.rem - [K].length
          rw[O.out]
    · have fc:=η (eE.out.trans (if_neg oD));clear eE UD;by_cases s:K=256
      · have m:=η (fc.out.trans (if_pos s));have CL:=xy h5;have an:=η CL;clear fc CL;subst s
        go_wp2_with fail
        refine an.out.mono ?_;rintro e w6 ⟨rfl,h6⟩
        go_wp2_with fail
        go_ret
        have Sl:({ t with x:=t.x.drop n }:IS).over.all=t.all:=by unfold IS.over;split <;> rfl
        refine aj.MW m.out Sl (av.bR y H h6) ?_ (by split <;> rfl);have al:=h5.ir.le;cases wU:S.last with
        | true=>
          have V:t.last=true:=by rw[<-d.last];exact wU
          unfold IS.over;rw[if_pos (show({ t with x:=t.x.drop n }:IS).last=true from V),if_pos rfl,if_pos rfl];exact⟨by show rb M.B ((M.a+n+7)/8*8)=gO (t.x.drop n);rw[AP al,R.out],rfl,by show true=t.last;rw[V],d.left,d.c0,d.c1,d.c2,d.lens,λe=>by simp at e,λe=>by simp at e,λe=>by simp at e,λe=>by simp at e,d.tail,d.rem,d.err⟩
        | false=>
          have V:t.last=false:=by rw[<-d.last];exact wU
          unfold IS.over;rw[if_neg (show¬({ t with x:=t.x.drop n }:IS).last=true by show¬t.last=true;rw[V];decide),if_neg δ,if_neg δ];exact⟨R.out,rfl,by show false=t.last;rw[V],d.left,d.c0,d.c1,d.c2,d.lens,λe=>by simp at e,λe=>by simp at e,λe=>by simp at e,λe=>by simp at e,d.tail,d.rem,d.err⟩
      · have fX:=η (fc.out.trans (if_neg s));have aA:(K==256)=false:=by simpa using s
        clear fc;by_cases G:285<K
        · have m:=η (fX.out.trans (if_pos G));have U:=Av K (.inr G) ω wc;have Lf:=η U;have h6:=av.bR y H h5;clear fX U s
          go_wp2_with fail
          refine Lf.out.mono ?_;rintro e w6 ⟨rfl,rfl⟩
          go_wp2_with fail
          go_ret
          exact aj.pV m.out δ δ δ rfl h6 d.err rfl
        · have J:=η (fX.out.trans (if_neg G));obtain⟨j,hj⟩ :=ν ((K-257).toNat);have rA:j<29:=ω;have U:=lK j rA K ω wc;have Lf:=η U;rw[hj]at J;have fH:=CW j rA;obtain⟨P,TW⟩ :=ν (lB j);obtain⟨LE,TX⟩ :=ν (lE j);rw[TW,TX]at Lf J fH;have ao:(0:Int)<=P/\(P:Int)<=258/\(0:Int)<=LE/\(LE:Int)<=5:=ω;have Q:rb ({ M with a:=M.a+n }:DM).B ({ M with a:=M.a+n }:DM).a=t.x.drop n:=R.out;clear fX U hj rA TW TX fH s;by_cases u:(t.x.drop n).length<LE
          · have m:=η (J.out.trans (if_pos u));have v:Calls Tryz.prog 125 #[.pointer (some ⟨g,0,none⟩), .agg #[.slice M.Ai M.ni M.ci, .int .i64 M.a], .int .i64 P, .int .i64 LE] wc λe w'=>e= .returned (.tuple #[.int .i64 0, .int .i64 5])/\av (w.alloc (.cells #[.slice M.Ai M.ni M.ci, .int .i64 (M.a:Nat)] 104)).drew c w' b0 g M S:=sf h5 M.a r.ir.le P LE (by rw[Q];exact u)
            have J5:=η v;clear u J v Q
            go_wp2_with fail
            refine Lf.out.mono ?_;rintro e w6 ⟨rfl,rfl⟩
            go_wp2_with fail
            refine J5.out.mono ?_;rintro e w7 ⟨rfl,h7⟩;have ab:=h7.cell.frozen' (i:=15) ω;have ac:=h7.cell.cell (i:=15) ω;have I:=av.bR y H (h7.put (i:=15) ω (.int .i64 0) { S with len:=0 } (bN rfl rfl rfl rfl rfl rfl rfl rfl rfl rfl rfl rfl rfl rfl rfl rfl))
            go_wp2_with fail
            go_ret
            exact aj.lack (by rw[m.out]) I ⟨d.x,d.st,d.last,d.left,d.c0,d.c1,d.c2,d.lens,d.hd,d.lt,d.ds,λe=>by simp [q.out]at e,d.tail,d.rem,d.err⟩ rfl
          · have m:=η (J.out.trans (if_neg u));obtain⟨L,mG⟩ :=ν (P+num (t.x.drop n) LE);have v:=xu h5 (.agg #[.slice M.Ai M.ni M.ci, .int .i64 M.a]) ⟨_,_,_,_,rfl⟩ P ω LE ω (by rw[Q];omega) (L:Int) (by rw[Q,<-mG];simp);rw[mG]at m;have J5:=η v;have O3:Hid (rb M.B (M.a+n+LE)=(t.x.drop n).drop LE):=by show _=_;rw[<-fR,R.out]
            have ap:(0:Int)<=L:=ω;clear u J v Q mG
            go_wp2_with fail
            refine Lf.out.mono ?_;rintro e w6 ⟨rfl,rfl⟩
            go_wp2_with fail
            refine J5.out.mono ?_;rintro e w7 ⟨rfl,h7⟩;have ab:=h7.cell.frozen' (i:=15) ω;have ac:=h7.cell.cell (i:=15) ω;have z5:=h7.cell.frozen' (i:=5) ω;have k5:=h7.cell.cell (i:=5) ω;have I:=av.bR y H ((h7.put (i:=15) ω (.int .i64 L) { S with len:=L } (bN rfl rfl rfl rfl rfl rfl rfl rfl rfl rfl rfl rfl rfl rfl rfl rfl)).put (i:=5) ω (.int .i64 7) { S with len:=L,st:=7 } (bN rfl rfl rfl rfl rfl rfl rfl rfl rfl rfl rfl rfl rfl rfl rfl rfl))
            go_wp2_with fail
            go_ret
            exact aj.MW m.out rfl I ⟨O3.out,rfl,d.last,d.left,d.c0,d.c1,d.c2,d.lens,λe=>by simp at e,λ_=>d.lt (.inl q.out),λ_=>d.ds (.inl q.out),λ_=>rfl,d.tail,d.rem,d.err⟩ rfl
  · have wA:(E==0)=false:=by simpa using Y
    have jU:=o.out Y;have m:=η (f.out.trans (if_pos Y));have WH:=η (eZ.out.resolve_left Y);clear o eZ jL f ku UD;subst jU;have h6:=av.bR y H h5
    go_wp2_with fail
    go_ret
    rcases WH.out with he | he
    · subst he;exact aj.pV m.out δ δ δ rfl h6 d.err rfl
    · subst he;exact aj.lack (by rw[m.out]) h6 d rfl
end
section
variable {w w' w0 w2:World} {b0 g:Nat} {c c0:Nat->Nat} {M M':DM} {S S':DS} {s t t':IS} {b:List Int} {v:Int}
theorem wK (h:av w0 c0 w b0 g M S) (f:Live M S t) (hO:t.Ok) (u:t.st=7) (jI:M.out.length<=10000000000) (eP:(t.rem:Int)<=4611686018427387904):
  Calls Tryz.prog 106 #[.pointer (some ⟨g,0,none⟩)] w (aj w0 c0 b0 g M t):=by
 obtain⟨c,o,hD⟩ :=h;have I:Below w.heap.size w (w.alloc (.cells #[.slice M.Ai M.ni M.ci, .int .i64 (M.a:Nat)] 104)).drew:=((Below.refl _ w).alloc (Nat.le_refl _) _).drew;have y:=o.keeps I;have C:=hD.step (c':=c) o.lo (λk H=>(o.cb k H).1) (aq.aB I) (λ_ _=>rfl);have h1:=y.refl;obtain⟨t0,B,gt,hp,CS,Qf,jS,bb⟩ :=h1.a5E (f.ds (.inr u))
 have oU:c w.heap.size=0:=by
  by_cases e:c w.heap.size=0
  · exact e
  · have:=(o.cb _ e).2;omega
 have Wt:M.gi<w.heap.size:=o.ir.cell.lt;have kJ:g<w.heap.size:=o.cell.lt;have Q:=rV _ t0 B gt b0 M.gi M.ni M.ci M.a M.Ai t.ds M.B CS jS y.ir (Nat.le_trans o.bB ω) Qf bb;unfold gN at Q;have hb:=f.x;rw[hb]at Q;have d:Hid (t.step=t.ak):=xv u;unfold IS.ak at d;obtain⟨K,hK⟩ :=ν ((ae t.ds t.x).1);obtain⟨n,X⟩ :=ν ((ae t.ds t.x).2.1);obtain⟨E,hE⟩ :=ν ((ae t.ds t.x).2.2);have m:Hid (E≠0->n=0):=λh=>by rw[<-X];exact(nC (by rw[hE];exact h)).2
 have eZ:Hid (E=0\/E=3\/E=5):=by have:=bK t.ds t.x;rw[hE]at this;exact this
 have jL:Hid (E=0->0<=K/\K<288/\n<=t.x.length):=λh=>by
  obtain⟨k2,n2,e1,e2,e3,e4,e5⟩ :=ie (l:=t.ds) (x:=t.x) hO.bit (by rw[hE,h];simp);rw[e1]at hK X;simp at hK X;omega
 rw[hK,X,hE]at Q d;have ku:=η Q;have Ox:=o.cell.cell (i:=14) ω;rw[show dF M S 14= .pointer (some ⟨gt,0,none⟩) from congrArg Value.pointer hp]at Ox;have k0:=o.cell.cell (i:=0) ω;rw[show dF M S 0= .pointer (some ⟨M.gi,0,none⟩) from rfl]at k0;have r0:=o.ir.cell.cell (i:=0) ω;have r1:=o.ir.cell.cell (i:=1) ω;rw[show rf M.Ai M.ni M.ci M.a 0= .slice M.Ai M.ni M.ci from rfl]at r0;rw[show rf M.Ai M.ni M.ci M.a 1= .int .i64 (M.a:Nat) from rfl]at r1;have HB:=η hb;have be:=η hp;have z:=η u;have Ld:=η oU;clear Q hK X hE hp hb u CS Qf jS bb h1 oU I;go_enter Tryz.func106,Tryz.ntmps106
 go_wp2_with fail
 go_cut [4,5] (λs4 s5 wx=>s4= .int .i64 K/\s5= .int .i64 E/\kd wx b0 M.gi M.Ai M.ni M.ci M.B (M.a+n)/\aq (w.alloc (.cells #[.slice M.Ai M.ni M.ci, .int .i64 (M.a:Nat)] 104)).drew wx (λk=>k=M.gi))
 case first=>
  go_region_law
   ((go_simp;go_at_call 124;(refine ku.out.mono ?_))
    rintro e w5 ⟨rfl,lF,Z⟩)
  all_goals
   go_wp2_with fail
   go_meet
   exact⟨rfl,rfl,lF,Z⟩
 case rest=>
  obtain⟨rfl,rfl,lF,Z⟩ :=hcut;have h5:=y.refl.moved Z lF;have x0:wc.cell? ⟨w.heap.size,0,none⟩ =some (.slice M.Ai M.ni M.ci):=by rw[Z.cell (p:= ⟨w.heap.size,0,none⟩) σ (by show¬w.heap.size=M.gi;omega)];simp
  have x1:wc.cell? ⟨w.heap.size,1,none⟩ =some (.int .i64 (M.a:Nat)):=by rw[Z.cell (p:= ⟨w.heap.size,1,none⟩) σ (by show¬w.heap.size=M.gi;omega)];simp
  have oA:Hid (rb M.B (M.a+n)=t.x.drop n):=by show _=_;rw[<-fR,HB.out]
  have eK:=o.bB;have UD:=f.rem;clear lF;by_cases lr:E=0
  · subst lr;obtain⟨Ia,RA,Q⟩ :=jL.out rfl;have eE:=η (d.out.trans (if_neg δ));clear m eZ jL d ku;obtain⟨ah,al⟩ :=hO.h7 z.out;have Um:=f.len z.out;have HLEN:=η Um;have T:=η UD;clear UD Um;by_cases ab:29<K
    · have q:=η (eE.out.trans (if_pos ab));have Y:=wL K (.inr ω) wc;have U:=η Y;have h6:=av.bR y C h5;clear eE Y
      go_wp2_with fail
      refine U.out.mono ?_;rintro e w6 ⟨rfl,rfl⟩
      go_wp2_with fail
      go_ret
      exact aj.pV q.out δ δ δ rfl h6 f.err rfl
    · have P:=η (eE.out.trans (if_neg ab));obtain⟨j,hj⟩ :=ν (K.toNat);have rA:j<30:=ω;have Y:=kf j rA K ω wc;have U:=η Y;rw[hj]at P
      have fH:dB j<=32768/\dE j<=13:=by
       have:∀j,j<30->dB j<=32768/\dE j<=13:=by decide+kernel
       exact this j rA
      have qs:=λv=> @My j v rA
      obtain⟨R,TW⟩ :=ν (dB j);obtain⟨LE,TX⟩ :=ν (dE j);rw[TW,TX]at U P fH qs;have aS:(0:Int)<=R/\(R:Int)<=32768/\(0:Int)<=LE/\(LE:Int)<=13:=ω;have V:rb ({ M with a:=M.a+n }:DM).B ({ M with a:=M.a+n }:DM).a=t.x.drop n:=oA.out;clear eE Y hj rA TW TX fH;by_cases r:(t.x.drop n).length<LE
      · have q:=η (P.out.trans (if_pos r));have s:Calls Tryz.prog 125 #[.pointer (some ⟨g,0,none⟩), .agg #[.slice M.Ai M.ni M.ci, .int .i64 M.a], .int .i64 R, .int .i64 LE] wc λe w'=>e= .returned (.tuple #[.int .i64 0, .int .i64 5])/\av (w.alloc (.cells #[.slice M.Ai M.ni M.ci, .int .i64 (M.a:Nat)] 104)).drew c w' b0 g M S:=sf h5 M.a o.ir.le R LE (by rw[V];exact r)
        have J5:=η s;clear r P s V qs
        go_wp2_with fail
        refine U.out.mono ?_;rintro e w6 ⟨rfl,rfl⟩
        go_wp2_with fail
        refine J5.out.mono ?_;rintro e w7 ⟨rfl,h7⟩;have h8:=av.bR y C h7
        go_wp2_with fail
        go_ret
        exact aj.lack (by rw[q.out]) h8 f rfl
      · have O:=η (P.out.trans (if_neg r));unfold IS.text at O;have xd:=cO (hO.bit.bu n) LE;have C:Hid (DE b0 w0 c0 (w.alloc (.cells #[.slice M.Ai M.ni M.ci, .int .i64 (M.a:Nat)] 104)).drew c):=C;have ap:=qs _ xd;obtain⟨D,N5⟩ :=ν (R+num (t.x.drop n) LE);have s:=xu h5 (.agg #[.slice M.Ai M.ni M.ci, .int .i64 M.a]) ⟨_,_,_,_,rfl⟩ R ω LE ω (by rw[V];omega) (D:Int) (by rw[V,<-N5];simp);rw[N5]at O ap;have J5:=η s;have O3:Hid (rb M.B (M.a+n+LE)=(t.x.drop n).drop LE):=by show _=_;rw[<-fR,oA.out]
        have bd:(1:Int)<=D/\(D:Int)<=32768:=ω;have zY:=f.tail.len;have G:M.nw=M.l.length:=o.Bf.iQ;have aE:(3:Int)<=(S.len:Int)/\(S.len:Int)<=258:=by have:=HLEN.out;omega
        have aI:Hid (M.nw=M.l.length):=G;clear r P s V N5 qs xd ah al;by_cases zK:t.all.length<D
        · have q:=η (O.out.trans (if_pos zK))
          have L:Hid (∀W,tB W b0 M.gw M.Aw M.nw M.cw M.l->Calls Tryz.prog 126 #[.pointer (some ⟨M.gw,0,none⟩), .int .i64 S.len, .int .i64 D] W λe w'=>e= .returned (.tuple #[.slice none 0 0, .int .i64 3])/\W=w'):=λW hW=>by
           refine(Jr W b0 M.gw M.nw M.cw M.Aw M.l hW S.len D ⟨ω,ω⟩ (.inr ω)).mono ?_;rintro e w' ⟨rfl,hq⟩;exact⟨rfl,hq⟩
          clear zK O zY G
          go_wp2_with fail
          refine U.out.mono ?_;rintro e w6 ⟨rfl,rfl⟩
          go_wp2_with fail
          refine J5.out.mono ?_;rintro e w7 ⟨rfl,h7⟩;have k1:=h7.cell.cell (i:=1) ω;have ad:=h7.cell.cell (i:=15) ω
          go_wp2_with fail
          go_region_law
           ((go_simp;go_at_call 126;(refine(L.out _ (by first | exact h7.Bf | exact h7.drew.Bf)).mono ?_))
            rintro e w8 ⟨rfl,rfl⟩)
          all_goals
           go_wp2_with fail
           go_ret
           exact aj.pV q.out δ δ δ rfl (av.bR y C.out h7.drew) f.err rfl
        · have q:=η (O.out.trans (if_neg zK));unfold IS.emit at q;have ac:D<=M.l.length:=ω;have U7:Hid (Hz M.l D t.len=again t.all D t.len):=F7 f.tail ω ac
          have L:Hid (∀W,tB W b0 M.gw M.Aw M.nw M.cw M.l->Calls Tryz.prog 126 #[.pointer (some ⟨M.gw,0,none⟩), .int .i64 S.len, .int .i64 D] W (BH W b0 M.gw M.Aw M.l D S.len)):=λW hW=>
           Rb W b0 M.gw M.nw M.cw M.Aw M.l hW S.len D ⟨ω,ω⟩ ⟨ω,ω⟩
          clear zK O zY G ac
          go_wp2_with fail
          refine U.out.mono ?_;rintro e w6 ⟨rfl,rfl⟩
          go_wp2_with fail
          refine J5.out.mono ?_;rintro e w7 ⟨rfl,h7⟩;have k1:=h7.cell.cell (i:=1) ω;have ad:=h7.cell.cell (i:=15) ω
          go_wp2_with fail
          go_region_law
           ((go_simp;go_at_call 126;(refine(L.out _ (by first | exact h7.Bf | exact h7.drew.Bf)).mono ?_))
            rintro e w8 ⟨g9,A9,n9,c9,rfl,Io,XE,aC,Qk,an⟩)
          all_goals
           have h8:=av.vU (M:={ M with a:=M.a+n+LE }) h7.drew Qk XE (λk H=>by
            rcases H with H | H
            · exact .inl (.inl H)
            · exact(an k H).imp (λe=> .inr e) id)
           have z5:=h8.cell.frozen' (i:=5) ω;have k5:=h8.cell.cell (i:=5) ω;have h9:=h8.put (i:=5) ω (.int .i64 6) { S with st:=6 } (bN rfl rfl rfl rfl rfl rfl rfl rfl rfl rfl rfl rfl rfl rfl rfl rfl);have am:aa (some (⟨g9,0,none⟩ :Addr))≠some g:=λe=>by have:=(Io.2.lt e).1;have:=h7.cell.lt;simp at*;omega
           have Sh:=Io.far (p:= ⟨g,5,none⟩) am (.int .i64 6);have A:=ri h9 _ _ S.len _ _ Sh.rd (Nat.le_refl _) (Nat.le_refl _) ω jI (by show((S.most:Nat):Int)<=_;rw[T.out];exact eP);unfold iK at A;have ao:Hid ((Hz M.l D S.len).length=S.len):=ui _ _ _;rw[ao.out]at A;by_cases N:t.rem<t.len
           · rw[if_pos (show S.most<S.len by rw[T.out,HLEN.out];exact N)]at A;have EE:=η A;have HZ:=η N;clear A N
             go_wp2_with fail
             refine EE.out.mono ?_;rintro e GV ⟨A8,n8,c8,rfl,J⟩
             go_wp2_with fail
             go_ret
             have F:t.step=({ t with x:=(t.x.drop n).drop LE,st:=6,a8:=t.a8++[aF.mk 0 t.len D],all:=t.all++(again t.all D t.len).take t.rem,rem:=t.rem-(again t.all D t.len).length },6):=q.out.trans (by rw[if_pos (by rw[aJ];exact HZ.out)]);refine aj.bad (b:=(again t.all D t.len).take t.rem) F δ δ δ rfl (by rw[List.length_take,aJ];have:=HLEN.out;omega) (av.bR y C.out J) f.err ?_;show M.out++(Hz M.l D S.len).take S.most=_
             rw[T.out,HLEN.out,U7.out]
           · rw[if_neg (show¬S.most<S.len by rw[T.out,HLEN.out];exact N)]at A;have EE:=η A;have HZ:=η N;have aA:Hid ((again t.all D t.len).take t.rem=again t.all D t.len):=List.take_of_length_le (by rw[aJ];omega);clear A N
             go_wp2_with fail
             refine EE.out.mono ?_;rintro e GV ⟨A8,n8,c8,rfl,J⟩
             go_wp2_with fail
             go_ret
             have F:t.step=({ t with x:=(t.x.drop n).drop LE,st:=6,a8:=t.a8++[aF.mk 0 t.len D],all:=t.all++(again t.all D t.len).take t.rem,rem:=t.rem-(again t.all D t.len).length },0):=q.out.trans (by rw[if_neg (by rw[aJ];exact HZ.out)]);refine aj.go (b:=(again t.all D t.len).take t.rem) F rfl (by rw[List.length_take,aJ];have:=HLEN.out;omega) (av.bR y C.out J) ⟨O3.out,rfl,f.last,f.left,f.c0,f.c1,f.c2,f.lens,λe=>by simp at e,λ_=>f.lt (.inr z.out),λ_=>f.ds (.inr z.out),λe=>by simp at e, ?_, ?_,f.err⟩ ?_
             · show pS (t.all++(again t.all D t.len).take t.rem) (u9 M.l (Hz M.l D S.len))
               rw[aA.out,HLEN.out,U7.out];exact f.tail.add _
             · show S.most-S.len=t.rem-(again t.all D t.len).length
               rw[T.out,HLEN.out,aJ]
             · show M.out++(Hz M.l D S.len).take S.most=_
               rw[T.out,HLEN.out,U7.out]
  · have wA:(E==0)=false:=by simpa using lr
    have jU:=m.out lr;have q:=η (d.out.trans (if_pos lr));have WH:=η (eZ.out.resolve_left lr);clear m eZ jL d ku UD;subst jU;have h6:=av.bR y C h5
    go_wp2_with fail
    go_ret
    rcases WH.out with he | he
    · subst he;exact aj.pV q.out δ δ δ rfl h6 f.err rfl
    · subst he;exact aj.lack (by rw[q.out]) h6 f rfl
end
section
variable {w w' w0 w2:World} {b0 g:Nat} {c c0:Nat->Nat} {M M':DM} {S S':DS} {s t t':IS} {b:List Int} {v:Int}
theorem JA (h:s.st=8):s.step=(s,8):=by unfold IS.step;rw[if_neg ω,if_neg ω,if_neg ω,if_neg ω,if_neg ω,if_neg ω,if_neg ω,if_neg ω]
theorem JD (h:av w0 c0 w b0 g M S) (c:Live M S s) (hO:s.Ok) (want:Int) (m:1<=want) (d:want<=4611686018427387904) (i:M.out.length<=10000000000) (f:(s.rem:Int)<=4611686018427387904):
  Calls Tryz.prog 80 #[.pointer (some ⟨g,0,none⟩), .int .i64 want] w (aj w0 c0 b0 g M s):=by
 obtain⟨-, -, -, -, -,k, -⟩ :=h.cells;have n:=hO.st8;rw[c.st]at k;have j:s.st=0\/s.st=1\/s.st=2\/s.st=3\/s.st=4\/s.st=5\/s.st=6\/s.st=7\/s.st=8:=ω;clear n;rcases j with a | a | a | a | a | a | a | a | a
 all_goals
  rw[a]at k
 · have b:=η (Fe h c hO a);clear a;go_enter Tryz.func80,Tryz.ntmps80
   go_wp2_with fail
   refine b.out.mono ?_;rintro e w1 hp;obtain⟨_,_,_,v,_,rfl,_⟩ :=id hp
   go_wp2_with fail
   go_ret
   exact hp
 · have b:=η (JC h c hO a);clear a;go_enter Tryz.func80,Tryz.ntmps80
   go_wp2_with fail
   refine b.out.mono ?_;rintro e w1 hp;obtain⟨_,_,_,v,_,rfl,_⟩ :=id hp
   go_wp2_with fail
   go_ret
   exact hp
 · have b:=η (Cj h c hO a want m d i f);clear a;go_enter Tryz.func80,Tryz.ntmps80
   go_wp2_with fail
   refine b.out.mono ?_;rintro e w1 hp;obtain⟨_,_,_,v,_,rfl,_⟩ :=id hp
   go_wp2_with fail
   go_ret
   exact hp
 · have b:=η (Fl h c hO a);clear a;go_enter Tryz.func80,Tryz.ntmps80
   go_wp2_with fail
   refine b.out.mono ?_;rintro e w1 hp;obtain⟨_,_,_,v,_,rfl,_⟩ :=id hp
   go_wp2_with fail
   go_ret
   exact hp
 · have b:=η (Fg h c hO a);clear a;go_enter Tryz.func80,Tryz.ntmps80
   go_wp2_with fail
   refine b.out.mono ?_;rintro e w1 hp;obtain⟨_,_,_,v,_,rfl,_⟩ :=id hp
   go_wp2_with fail
   go_ret
   exact hp
 · have b:=η (yY h c hO a);clear a;go_enter Tryz.func80,Tryz.ntmps80
   go_wp2_with fail
   refine b.out.mono ?_;rintro e w1 hp;obtain⟨_,_,_,v,_,rfl,_⟩ :=id hp
   go_wp2_with fail
   go_ret
   exact hp
 · have b:=η (Fm h c hO a i f);clear a;go_enter Tryz.func80,Tryz.ntmps80
   go_wp2_with fail
   refine b.out.mono ?_;rintro e w1 hp;obtain⟨_,_,_,v,_,rfl,_⟩ :=id hp
   go_wp2_with fail
   go_ret
   exact hp
 · have b:=η (wK h c hO a i f);clear a;go_enter Tryz.func80,Tryz.ntmps80
   go_wp2_with fail
   refine b.out.mono ?_;rintro e w1 hp;obtain⟨_,_,_,v,_,rfl,_⟩ :=id hp
   go_wp2_with fail
   go_ret
   exact hp
 · have l:=η (JA a);clear a;go_enter Tryz.func80,Tryz.ntmps80
   go_wp2_with fail
   go_ret
   exact⟨M,S,s,8,[],rfl,h,c.err,σ,σ,σ, .inr (.inr ⟨δ,δ,by rw[IS.dn (by rw[l.out];simp),l.out],λ_=>c⟩)⟩
end
end Go.Proofs.YtddhegejmkgmjaaGreat
