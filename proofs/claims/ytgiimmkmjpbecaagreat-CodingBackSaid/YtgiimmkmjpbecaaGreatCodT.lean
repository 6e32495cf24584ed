/-
  part
-/
import Derived.Test.YtgiimmkmjpbecaaGreatPk35
import Derived.Deep.DeepCutAuto
namespace Go.Proofs.YtgiimmkmjpbecaaGreat
open Go.RowKit
set_option linter.unusedVariables false
set_option maxRecDepth 100000
set_option maxHeartbeats 4000000
def D5 (N K J:Nat) (ended:Bool):Int:=if K=N then 0 else if 0<K then 5 else if 0<J then 6 else if ended then 8 else 5
def Lb (w:World) (b0 g:Nat) (l:ag) (M N K:Nat) (ended:Bool) (e:Ending) (w':World):Prop:=
 ∃Ao no co A' n' c',e= .returned (.tuple #[.slice Ao no co, .int .i64 (D5 N K (l.length-K) ended)])/\bT .u8 w' w'.heap.size Ao no (l.take K)/\oT w' b0 g A' n' c' (l.drop K) ((M-K:Nat):Int) ended/\bb w w' (λk=>k=g)/\no<=co/\
  (∀k,ai Ao=some k->w.heap.size<=k)/\(∀k,ai A'=some k->w.heap.size<=k)/\(∀k,ai Ao=some k->ai A'≠some k)
theorem Gw (w:World) (b0 g n c M N K:Nat) (A:ax) (l:ag) (ended:Bool) (h:oT w b0 g A n c l (M:Int) ended) (W:b0<=w.heap.size) (S:n<=1000000000) (U:(M:Int)<=4611686018427387904) (hN:(N:Int)<=1000000000) (V:K=min N (min n M)):
  Calls Tryz.prog 224 #[.pointer (some ⟨g,0,none⟩), .int .i64 N] w (Lb w b0 g l M N K ended):=by
 have c0:=h.cell.az 0;have c1:=h.cell.az 1;have z0:=h.cell.aH 0;have z1:=h.cell.aH 1;unfold S9 at c0 c1;have tJ:(0:Int)<=n/\(0:Int)<=M/\(0:Int)<=N:=ω;have H:=η (⟨h,S,U,hN,V⟩ :_/\_/\_/\_/\_);clear h S U hN V
 go_in
 go_upto_region 2 with fail
 go_cut [6] (λv wx=>v= .int .i64 K/\∃nq,wx=w.drewN nq)
 case first=>
  have hc:((N:Int)<=n/\(N:Int)<=M/\K=N)\/((n:Int)<N/\(n:Int)<=M/\K=n)\/((M:Int)<N/\(M:Int)<n/\K=M):=by have:=H.2.2.2.2;omega
  clear H;rcases hc with ⟨h1,h2,rfl⟩ | ⟨h1,h2,rfl⟩ | ⟨h1,h2,rfl⟩
  · go_quiet (fail)
    go_wp2_with fail;go_meet;exact⟨rfl,_,rfl⟩
  · go_quiet (fail)
    go_wp2_with fail;go_meet;exact⟨rfl,_,rfl⟩
  go_quiet (fail)
  go_wp2_with fail;go_meet;exact⟨rfl,_,rfl⟩
 obtain⟨rfl,nq,rfl⟩ :=hcut;obtain⟨i0,hi,B,f,z⟩ :=aL mG;obtain⟨h,S,U,hN,V⟩ :=H.out;have d:K<=n/\K<=N/\K<=M:=ω;have kB:n=l.length:=h.own.1;have ab:=dR (P:=Tryz.prog) 22 5 Tryz.underlying22 hi f A n c (j:=K) (τ h.own.2.iT);have C:=cK (P:=Tryz.prog) 22 5 Tryz.underlying22 hi f A n c (j:=K) d.1;have E:bT .u8 w w.heap.size A K (l.take K):=bT.pre h.own.rd d.1;have s:bT .u8 w w.heap.size (dw A c K) (n-K) (l.drop K):=bT.dw h.own.rd d.1 h.own.2.iT;obtain⟨J,hJ⟩ :=ν (n-K);rw[hJ]at C s;have R:J<=1000000000/\K<=1000000000:=ω;have HJ:Hid (l.length-K=J):=by show _=_;omega
 have hd:(M:Int)-K=((M-K:Nat):Int):=ω;have ac:(0:Int)<=(M:Int)-K/\(M:Int)-K<=4611686018427387904:=ω;have HD:=η hd;have ao:=η d.2.1;have Hi:=η hi;have gL:=η B;have fN:=η f;have gM:=η z;have ad:(0:Int)<=K/\(K:Int)<=M:=ω;have b:bb w (w.drewN nq) (λ_=>False):=(bb.refl w _).drewN nq;have m:Hid ((w.drewN nq).heap.size=w.heap.size):=rfl;have I:=h.dx b (λ_ _=>id);have G:=E.drewN nq;have F:=s.drewN nq;have t:g<(w.drewN nq).heap.size:=h.cell.lt;rw[<-m.out]at G F;clear hi B f z hJ V hd h S U hN d kB E s H;clear c0 c1 z0 z1;revert b m I G F t;generalize w.drewN nq=wq;intro b m I G F t;have c0:wq.cell? ⟨g,0,none⟩ =some (.slice A n c):=I.cell.az 0
 go_upto_region 6 with (first
  | (at_builtin;(refine bm .u8 wq.heap.size 5 i0 1 rfl (.tmp 21) (.tmp 27) _ rfl Tryz.underlying22 Hi.out gL.out fN.out gM.out rfl (aT.lit rfl [] _ (af _) σ) rfl (G.alloc (af _) _) ξ ω σ ?_)
     intro A2 d2 w2 ib Q iq;simp only [List.nil_append,Nat.zero_add]at ib;have a:Below wq.heap.size wq w2:=((aw _ wq).alloc (af _) _).grown Q σ (by simp [ai]);have T:=I.keeps a;have k0:w2.cell? ⟨g,0,none⟩ =some (.slice A n c):=T.cell.az 0;have D:=F.below a;have al:=T.cell.lt;have VS:=a.size)
  | (at_builtin;have _g:=VS;(refine bm .u8 w2.heap.size 5 i0 1 rfl (.tmp 30) (.tmp 36) _ rfl Tryz.underlying22 Hi.out gL.out fN.out gM.out rfl (aT.lit rfl [] _ (af _) σ) rfl (D.alloc ω _) ξ ω σ ?_)
     intro y d3 p KU O oz;simp only [List.nil_append,Nat.zero_add]at KU;have i:Below w2.heap.size w2 p:=((aw _ w2).alloc (af _) _).grown O σ (by simp [ai]);have q:=T.keeps i;have ah:=q.cell.lt;have e0:p.cell? ⟨g,0,none⟩ =some (.slice A n c):=q.cell.az 0;have e:p.cell? ⟨g,1,none⟩ =some (.int .i64 (M:Int)):=q.cell.az 1;have x:p.cell? ⟨g,2,none⟩ =some (.bool ended):=q.cell.az 2;have y0:=q.cell.aH 0;have y1:=q.cell.aH 1;have yH:=i.size))
 obtain⟨f1,X,f3,f4,f5,f6,f7⟩ :=a0S (m2:=(M:Int)-K) b m.out a i q ib KU t W;have u:oT ((p.setCell ⟨g,0,none⟩ (.slice y J d3)).setCell ⟨g,1,none⟩ (.int .i64 ((M:Int)-K))) b0 g y J d3 (l.drop K) ((M-K:Nat):Int) ended:=by rw[<-HD.out];exact X
 have hA:∀r,r=D5 N K J ended->Lb w b0 g l M N K ended (.returned (.tuple #[.slice A2 K d2, .int .i64 r])) ((p.setCell ⟨g,0,none⟩ (.slice y J d3)).setCell ⟨g,1,none⟩ (.int .i64 ((M:Int)-K))):=
  λr hr=> ⟨A2,K,d2,y,J,d3,by rw[hr,HJ.out],f1,u,f3,f4,f5,f6,f7⟩
 have W:K=0->∀r,r=D5 N K J ended->Lb w b0 g l M N K ended (.returned (.tuple #[.slice none 0 0, .int .i64 r])) ((p.setCell ⟨g,0,none⟩ (.slice y J d3)).setCell ⟨g,1,none⟩ (.int .i64 ((M:Int)-K))):=
  λL r hr=> ⟨none,0,0,y,J,d3,by rw[hr,HJ.out],by subst L;exact⟨rfl,Rd.di⟩,u,f3,af _,λk L=>by simp [ai]at L,f6,λk L=>by simp [ai]at L⟩
 have Z:=X.cell.az 0;have q2:=X.cell.az 2;have Y:=η hA;have o:=η W;unfold S9 at Z q2;clear hA W f1 X u f3 f4 f5 f6 f7 ib KU Q O iq oz a i T q D e0 e x y0 y1 yH I G F ab C k0 c0 ac ad b;revert Z q2 Y o;generalize (p.setCell ⟨g,0,none⟩ (.slice y J d3)).setCell ⟨g,1,none⟩ (.int .i64 ((M:Int)-K))=wz;intro Z q2 Y o;by_cases e:K=N
 · have hf:=η (Y.out 0 (by unfold D5;rw[aa e]));subst e
   go_wp2_with fail;go_returns;exact hf
 have an:¬(K:Int)=N:=ω;by_cases x:0<K
 · have hf:=η (Y.out 5 (by unfold D5;rw[a8 e,aa x]));have am:(0:Int)<K:=ω;clear e
   go_wp2_with fail;go_returns;exact hf
 obtain rfl:K=0:=ω;have e3:0<N:=ω;by_cases e4:0<J
 · have hf:=η (o rfl 6 (by unfold D5;rw[a8 e,a8 x,aa e4]));clear e x R
   go_wp2_with fail;go_returns;exact hf
 obtain rfl:J=0:=ω;have hf:=η (o rfl (if ended then 8 else 5) (by unfold D5;rw[a8 e,a8 x,a8 e4]));clear e x e4 R;cases ended
 · go_wp2_with fail;go_returns;exact hf
 go_wp2_with fail;go_returns;exact hf
end Go.Proofs.YtgiimmkmjpbecaaGreat
