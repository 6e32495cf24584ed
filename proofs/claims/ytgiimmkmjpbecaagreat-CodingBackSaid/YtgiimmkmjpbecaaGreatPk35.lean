/-
  part
-/
import Derived.Test.YtgiimmkmjpbecaaGreatStep
import Derived.Test.YtgiimmkmjpbecaaGreatProg
import Derived.Handy
import Derived.BigRegion
set_option linter.unusedVariables false
set_option maxRecDepth 100000
set_option maxHeartbeats 4000000
namespace Go.Proofs.YtgiimmkmjpbecaaGreat
open Go.RowKit
theorem mG:(Tryz.prog.info? 5).map (λi=>(i.zero,i.size,i.bytes))=some (some (.int .u8 0),1,1):=by kernel_rfl
def S9 (A:ax) (n c:Nat) (most:Int) (ended:Bool):Nat->Value
 | 0=> .slice A n c
 | 1=> .int .i64 most
 | _=> .bool ended
structure oT (w:World) (b0 g:Nat) (A:ax) (n c:Nat) (l:ag) (most:Int) (ended:Bool):Prop where
 cell:Ar w g 3 (S9 A n c most ended)
 lo:b0<=g
 own:aT .u8 w b0 5 A n c l
 apart:ai A≠some g
section
variable {w w':World} {b0 g n c:Nat} {A:ax} {l:ag} {most:Int} {ended:Bool}
theorem oT.dx {S:Nat->Prop} (h:oT w b0 g A n c l most ended) (a:bb w w' S) (b:∀k,foot A g k->¬S k):oT w' b0 g A n c l most ended:=
 ⟨a.ar h.cell (b g (.inl rfl)),h.lo,a.dJ h.own λq d=>b q (.inr d),h.apart⟩
theorem oT.keeps (h:oT w b0 g A n c l most ended) (a:Below w.heap.size w w'):oT w' b0 g A n c l most ended:=
 h.dx (S:=λ_=>False) (bb.bC a) λ_ _=>id
end
def a17 (w:World) (b0 g:Nat) (A:ax) (l:ag) (most:Int) (e:Ending) (w':World):Prop:=
 ∃A' n' c',e= .returned (.tuple #[])/\oT w' b0 g A' n' c' l most false/\bb w w' (foot A g)/\(ai A'=ai A\/ai A'=some w.heap.size)
theorem K3 (w:World) (b0 g n c B m d:Nat) (A C:ax) (l b:ag) (most:Int) (h:oT w b0 g A n c l most false) (v:bT .u8 w B C m b) (z:b0<=w.heap.size) (J:n+m<=1000000000):
  Calls Tryz.prog 222 #[.pointer (some ⟨g,0,none⟩), .slice C m d] w (a17 w b0 g A (l++b) most):=by
 have c0:=h.cell.az 0;have c2:=h.cell.az 2;have G:=h.cell.aH 0;unfold S9 at c0 c2;obtain⟨u,hi,j,f,a⟩ :=aL mG;have Hi:=η hi;have F:=η j;have E:=η f;have D:=η a;clear hi j f a;have K:=h.cell.lt
 go_in
 go_wp2_with (at_builtin;(refine bm .u8 b0 5 u 1 rfl (.tmp 13) (.tmp 14) _ rfl Tryz.underlying22 Hi.out F.out E.out D.out rfl h.own rfl v ω ω z ?_)
              intro A2 d2 w2 x o s;have r:=h.cell.grown o (λe=>h.apart e.symm);have I:w2.cell? ⟨g,0,none⟩ =some (.slice A n c):=r.az 0;have H:=r.aH 0)
 have q:ai A2≠some g:=by
  rcases s with e | e
  · rw[e];exact h.apart
  rw[e];intro t;injection t with t;omega
 first
  | go_end0
  | go_returns
 refine⟨A2,_,d2,rfl, ⟨(r.cE 0 _).congr λi hi=> ?_,h.lo,x.far (p:= ⟨g,0,none⟩) q _,q⟩, ?_,s⟩
 · obtain rfl | rfl | rfl:i=0\/i=1\/i=2:=ω;all_goals rfl
 exact((bb.refl w (foot A g)).grown o (λk y=> .inl (.inr y))).setCell (p:= ⟨g,0,none⟩) (.inl (.inl rfl)) _
theorem Nx (w:World) (b0 g n c:Nat) (A:ax) (l:ag) (most:Int) (ended:Bool) (h:oT w b0 g A n c l most ended):
  Calls Tryz.prog 221 #[.pointer (some ⟨g,0,none⟩)] w λe w'=>e= .returned (.tuple #[])/\oT w' b0 g A n c l most true/\bb w w' (λk=>k=g):=by
 have c2:=h.cell.az 2;have a:=h.cell.aH 2;unfold S9 at c2
 go_in
 go_wp2_with fail
 first
  | go_end0
  | go_returns
 refine⟨rfl, ⟨(h.cell.cE 2 _).congr λi hi=> ?_,h.lo,h.own.far (p:= ⟨g,2,none⟩) h.apart _,h.apart⟩,(bb.refl w (λk=>k=g)).setCell (p:= ⟨g,2,none⟩) (.inl rfl) _⟩;obtain rfl | rfl | rfl:i=0\/i=1\/i=2:=ω;all_goals rfl
theorem a0S {w f w2 d:World} {b0 g n c K J d2 d3:Nat} {A A2 b:ax} {l lt ld:ag} {most m2:Int} {ended:Bool} (s:bb w f (λ_=>False)) (C:f.heap.size=w.heap.size) (m:Below f.heap.size f w2) (j:Below w2.heap.size w2 d)
  (v:oT d b0 g A n c l most ended) (r:aT .u8 w2 f.heap.size 5 A2 K d2 lt) (u:aT .u8 d w2.heap.size 5 b J d3 ld) (E:g<f.heap.size) (F:b0<=w.heap.size):
  bT .u8 ((d.setCell ⟨g,0,none⟩ (.slice b J d3)).setCell ⟨g,1,none⟩ (.int .i64 m2)) ((d.setCell ⟨g,0,none⟩ (.slice b J d3)).setCell ⟨g,1,none⟩ (.int .i64 m2)).heap.size A2 K lt/\
  oT ((d.setCell ⟨g,0,none⟩ (.slice b J d3)).setCell ⟨g,1,none⟩ (.int .i64 m2)) b0 g b J d3 ld m2 ended/\bb w ((d.setCell ⟨g,0,none⟩ (.slice b J d3)).setCell ⟨g,1,none⟩ (.int .i64 m2)) (λk=>k=g)/\K<=d2/\
  (∀k,ai A2=some k->w.heap.size<=k)/\(∀k,ai b=some k->w.heap.size<=k)/\(∀k,ai A2=some k->ai b≠some k):=by
 have z:=m.size;have D:=j.size;have o:∀k,ai A2=some k->f.heap.size<=k/\k<w2.heap.size:=λk a=>r.2.lt a;have q:∀k,ai b=some k->w2.heap.size<=k:=λk a=>(u.2.lt a).1;have y:ai A2≠some g:=λe=>by have:=(o g e).1;omega
 have t:ai b≠some g:=λe=>by have:=q g e;omega
 have B:=((r.below j (λk a=>(o k a).2)).far (p:= ⟨g,0,none⟩) y (.slice b J d3)).far (p:= ⟨g,1,none⟩) y (.int .i64 m2);refine⟨B.rd, ⟨((v.cell.cE 0 _).cE 1 _).congr λi hi=> ?_,v.lo,((u.more ω).far (p:= ⟨g,0,none⟩) t _).far (p:= ⟨g,1,none⟩) t _,t⟩, ?_, ?_,λk a=>by have:=(o k a).1;omega,λk a=>by have:=q k a;omega,λk a e=>by have:=(o k a).2;have:=q k e;omega⟩
 · obtain rfl | rfl | rfl:i=0\/i=1\/i=2:=ω;all_goals rfl
 · have hC:bb w d (λk=>k=g):=(s.more (λ_ h=>h.elim)).trans (bb.bC (S:=λ_=>False) (m.trans (j.mono z))) (λ_ h=>h.elim);exact(hC.setCell (p:= ⟨g,0,none⟩) (.inl rfl) _).setCell (p:= ⟨g,1,none⟩) (.inl rfl) _
 rcases r.2 with ⟨_,x,G⟩ | ⟨_,_,_,_,_,x,_⟩
 · omega
 exact x
def plF (A:ax) (n c:Nat) (done:Bool):Nat->Value
 | 0=> .slice A n c
 | _=> .bool done
structure oQ (w:World) (b0 g:Nat) (A:ax) (n c:Nat) (l:ag) (done:Bool):Prop where
 cell:Ar w g 2 (plF A n c done)
 lo:b0<=g
 own:aT .u8 w b0 5 A n c l
 apart:ai A≠some g
section
variable {w w':World} {b0 g n c:Nat} {A:ax} {l:ag} {done:Bool}
theorem oQ.dx {S:Nat->Prop} (h:oQ w b0 g A n c l done) (a:bb w w' S) (b:∀k,foot A g k->¬S k):oQ w' b0 g A n c l done:=
 ⟨a.ar h.cell (b g (.inl rfl)),h.lo,a.dJ h.own λq d=>b q (.inr d),h.apart⟩
end
def TA (w:World) (b0 g:Nat) (A:ax) (l:ag) (e:Ending) (w':World):Prop:=
 ∃A' n' c',e= .returned (.int .i64 0)/\oQ w' b0 g A' n' c' l false/\bb w w' (foot A g)/\(ai A'=ai A\/ai A'=some w.heap.size)
theorem Gc (w:World) (b0 g n c B m d:Nat) (A C:ax) (l b:ag) (h:oQ w b0 g A n c l false) (v:bT .u8 w B C m b) (z:b0<=w.heap.size) (J:n+m<=1000000000):
  Calls Tryz.prog 166 #[.pointer (some ⟨g,0,none⟩), .slice C m d] w (TA w b0 g A (l++b)):=by
 have c0:=h.cell.az 0;have c1:=h.cell.az 1;have G:=h.cell.aH 0;unfold plF at c0 c1;obtain⟨u,hi,j,f,a⟩ :=aL mG;have Hi:=η hi;have F:=η j;have E:=η f;have D:=η a;clear hi j f a;have K:=h.cell.lt
 go_in
 go_wp2_with (at_builtin;(refine bm .u8 b0 5 u 1 rfl (.tmp 13) (.tmp 14) _ rfl Tryz.underlying22 Hi.out F.out E.out D.out rfl h.own rfl v ω ω z ?_)
              intro A2 d2 w2 x o s;have r:=h.cell.grown o (λe=>h.apart e.symm);have I:w2.cell? ⟨g,0,none⟩ =some (.slice A n c):=r.az 0;have H:=r.aH 0)
 have q:ai A2≠some g:=by
  rcases s with e | e
  · rw[e];exact h.apart
  rw[e];intro t;injection t with t;omega
 go_ret;refine⟨A2,_,d2,rfl, ⟨(r.cE 0 _).congr λi hi=> ?_,h.lo,x.far (p:= ⟨g,0,none⟩) q _,q⟩, ?_,s⟩
 · obtain rfl | rfl:i=0\/i=1:=ω;all_goals rfl
 exact((bb.refl w (foot A g)).grown o (λk y=> .inl (.inr y))).setCell (p:= ⟨g,0,none⟩) (.inl (.inl rfl)) _
theorem Gb (w:World) (b0 g n c:Nat) (A:ax) (l:ag) (h:oQ w b0 g A n c l false):
  Calls Tryz.prog 163 #[.pointer (some ⟨g,0,none⟩)] w λe w'=>e= .returned (.int .i64 0)/\oQ w' b0 g A n c l true/\bb w w' (λk=>k=g):=by
 have c1:=h.cell.az 1;have a:=h.cell.aH 1;unfold plF at c1
 go_in
 go_wp2_with fail;go_ret;refine⟨rfl, ⟨(h.cell.cE 1 _).congr λi hi=> ?_,h.lo,h.own.far (p:= ⟨g,1,none⟩) h.apart _,h.apart⟩,(bb.refl w (λk=>k=g)).setCell (p:= ⟨g,1,none⟩) (.inl rfl) _⟩;obtain rfl | rfl:i=0\/i=1:=ω;all_goals rfl
theorem JJ (w:World) (b0 g n c:Nat) (A:ax) (l:ag) (done:Bool) (h:oQ w b0 g A n c l done):
  Calls Tryz.prog 165 #[.pointer (some ⟨g,0,none⟩)] w λe w'=>e= .returned (.slice A n c)/\aT .u8 w' b0 5 A n c l/\oQ w' b0 g none 0 0 [] done/\bb w w' (λk=>k=g):=by
 have c0:=h.cell.az 0;have a:=h.cell.aH 0;unfold plF at c0
 go_in
 go_wp2_with fail;go_ret;refine⟨rfl,h.own.far (p:= ⟨g,0,none⟩) h.apart _, ⟨(h.cell.cE 0 _).congr λi hi=> ?_,h.lo,aT.di,by simp [ai]⟩,(bb.refl w (λk=>k=g)).setCell (p:= ⟨g,0,none⟩) (.inl rfl) _⟩;obtain rfl | rfl:i=0\/i=1:=ω;all_goals rfl
end Go.Proofs.YtgiimmkmjpbecaaGreat
