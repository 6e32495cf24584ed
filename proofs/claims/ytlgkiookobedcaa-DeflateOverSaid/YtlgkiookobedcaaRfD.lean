/-
  The walk of the reference's tokens.
-/
import Derived.Test.YtlgkiookobedcaaPk28
import Derived.Test.YtlgkiookobedcaaPk7
import Derived.Test.YtlgkiookobedcaaPk10
namespace Go.Proofs.Ytlgkiookobedcaa
open Go.RowKit
set_option linter.unusedVariables false
section
variable {w w' w0 w2 : World} {b0 g : Nat} {c c0 : Nat → Nat} {R R' : RM} {s t t' : IS} {v : Int}
theorem RdT.lit' (w : World) (t : Tok) : RdT (w.alloc (.cells #[.int .u8 t.lit, .int .i64 t.len, .int .i64 t.dist] 68)) (w.heap.size + 1) (some ⟨w.heap.size, 0, none⟩) 1 [t] := by
  have h := tf_new w t.lit t.len t.dist 68
  refine ⟨rfl, fun _ => ⟨_, rfl, by simp, fun i hi => ?_⟩⟩
  obtain rfl : i = 0 := by omega
  exact ⟨by rw [addr0]; exact h.cell (i := 0) (by omega), by rw [addr0]; exact h.cell (i := 1) (by omega), by rw [addr0]; exact h.cell (i := 2) (by omega)⟩
theorem RefS.pushT (h : RefS w0 c0 w b0 g R) (t : Tok) {o : Obj} {A2 : Option Addr} {n2 c2 : Nat} (hg : (w.alloc o).grownBy w2 (blkOf R.At)) (ho : OwnT w2 b0 A2 n2 c2 (R.toks ++ [t])) (hat : blkOf A2 = blkOf R.At ∨ blkOf A2 = some (w.alloc o).heap.size) :
    RefS w0 c0 (w2.setCell ⟨g, 12, none⟩ (.slice A2 n2 c2)) b0 g { R with At := A2, nt := n2, ct := c2, toks := R.toks ++ [t] } := by
  have hap := h.apart.2.2.2
  have hgl := h.cell.lt
  have har := (h.cell.alloc o).grown hg (fun e => hap e.symm)
  have hne : blkOf A2 ≠ some g := by
    rcases hat with e | e
    · rw [e]; exact hap
    · rw [e]; intro e2; injection e2 with e2; simp at e2; omega
  refine h.ntoks ((((Chg.refl w _).alloc _).grown hg (fun q hq => .inl (.inr hq))).setCell (p := ⟨g, 12, none⟩) (.inl (.inl rfl)) _) ((har.set_ (i := 12) (by omega) _).congr (all13 rfl rfl rfl rfl rfl rfl rfl rfl rfl rfl rfl rfl rfl)) ⟨ho.1, ho.2.far (p := ⟨g, 12, none⟩) hne _⟩ (fun k hk => ?_)
  rcases hat with e | e
  · exact .inl (e ▸ hk)
  · rw [e] at hk; injection hk with hk; simp at hk; exact .inr (by omega)
theorem lens_ok (x : Int) (j : Nat) (hj : j < 29) (hx : x = 257 + (j : Int)) (w : World) : Calls Try.prog 36 #[.int .i64 x] w fun e w' => e = .returned (.tuple #[.int .i64 ((lB j : Nat) : Int), .int .i64 ((lE j : Nat) : Int), .bool true]) ∧ w = w' := by
  have := lens_any x w
  unfold lensV at this
  rw [if_pos (by omega), show (x - 257).toNat = j by omega] at this
  exact this
theorem lens_no (x : Int) (hx : x < 257 ∨ 285 < x) (w : World) : Calls Try.prog 36 #[.int .i64 x] w fun e w' => e = .returned (.tuple #[.int .i64 0, .int .i64 0, .bool false]) ∧ w = w' := by
  have := lens_any x w
  unfold lensV at this
  rw [if_neg (by omega)] at this
  exact this
theorem dists_ok (x : Int) (j : Nat) (hj : j < 30) (hx : x = (j : Int)) (w : World) : Calls Try.prog 37 #[.int .i64 x] w fun e w' => e = .returned (.tuple #[.int .i64 ((dB j : Nat) : Int), .int .i64 ((dE j : Nat) : Int), .bool true]) ∧ w = w' := by
  have := dists_any x w
  unfold distsV at this
  rw [if_pos (by omega), show (x - 0).toNat = j by omega] at this
  exact this
theorem dists_no (x : Int) (hx : x < 0 ∨ 29 < x) (w : World) : Calls Try.prog 37 #[.int .i64 x] w fun e w' => e = .returned (.tuple #[.int .i64 0, .int .i64 0, .bool false]) ∧ w = w' := by
  have := dists_any x w
  unfold distsV at this
  rw [if_neg (by omega)] at this
  exact this
theorem again_take (l : List Int) (D : Nat) {j N : Nat} (h : j ≤ N) : (again l D N).take j = again l D j := by
  unfold again
  rw [← List.map_take, List.take_range, Nat.min_eq_left h]
structure TkS (R R' : RM) : Prop where
  Al : R'.Al = R.Al
  Ad : R'.Ad = R.Ad
  Alc : R'.Alc = R.Alc
  Adc : R'.Adc = R.Adc
  keep : Keep R R'
def TokR (w0 : World) (c0 : Nat → Nat) (b0 g : Nat) (R : RM) (s : IS) (k : Nat) (wr : World) : Prop :=
  ∃ R' t, RefS w0 c0 wr b0 g R' ∧ IS.Steps s t ∧ RLive R' t ∧ t.Ok ∧ t.st = 6 ∧ TkS R R' ∧ Hid (k = t.mu) ∧ Hid (t.lt = s.lt) ∧ Hid (t.ds = s.ds)
def EmR (w0 : World) (c0 : Nat → Nat) (b0 g : Nat) (R : RM) (t : IS) (D N : Nat) (k : Nat) (i : Value) (wr : World) : Prop :=
  ∃ j A n cc, j ≤ N ∧ Hid (j ≤ t.rem) ∧ Hid (k = N - j) ∧ i = .int .i64 j ∧ RefS w0 c0 wr b0 g { R with Ao := A, no := n, co := cc, out := t.all ++ again t.all D j }
set_option maxRecDepth 100000 in
set_option maxHeartbeats 8000000 in
theorem rtokens_any (h : RefM w b0 g c R) (hL : RLive R s) (hO : s.Ok) (hst : s.st = 6) (Al Ad : Option Addr) (nl cl nd cd : Nat) (hRl : R.Al = .slice Al nl cl) (hRd : R.Ad = .slice Ad nd cd)
    (hl : RdI .i64 w w.heap.size Al nl s.lt) (hd : RdI .i64 w w.heap.size Ad nd s.ds) (hcl : 0 < nl → ∀ ad, Al = some ad → c ad.block = 0) (hcd : 0 < nd → ∀ ad, Ad = some ad → c ad.block = 0) :
    Calls Try.prog 20 #[.pointer (some ⟨g, 0, none⟩)] w (BlkPost w c b0 g R s) := by
  obtain ⟨i0, hi, hz0, hz1, hz2⟩ := info_parts wtok_info
  have Hi := Lib.hid hi
  have Hz0 := Lib.hid hz0
  have Hz1 := Lib.hid hz1
  have Hz2 := Lib.hid hz2
  obtain ⟨h61, h62⟩ := hO.h6 (.inl hst)
  obtain ⟨hll, hinl, -⟩ := check_ok h61
  obtain ⟨hdl, hind, -⟩ := check_ok h62
  have k8 := h.cell.cell (i := 8) (by omega)
  rw [show sF R 8 = .slice Al nl cl from hRl] at k8
  have k10 := h.cell.cell (i := 10) (by omega)
  have z10 := h.cell.frozen' (i := 10) (by omega)
  have hnl : nl ≤ 288 := by rw [hl.1]; exact hll
  have hnd : nd ≤ 288 := by rw [hd.1]; exact hdl
  have hgl := h.cell.lt
  have HRL := Lib.hid hRl
  have HRD := Lib.hid hRd
  have HST := Lib.hid hst
  have HLL := Lib.hid (show ∀ i, i < nl → 0 ≤ ix s.lt i ∧ ix s.lt i ≤ 15 from fun i hi => hinl i (by rw [← hl.1]; exact hi))
  have HDL := Lib.hid (show ∀ i, i < nd → 0 ≤ ix s.ds i ∧ ix s.ds i ≤ 15 from fun i hi => hind i (by rw [← hd.1]; exact hi))
  have HCL := Lib.hid hcl
  have HCD := Lib.hid hcd
  clear hi hz0 hz1 hz2 h61 h62 hll hinl hdl hind hRl hRd hst hcl hcd
  go_enter Try.func20, Try.ntmps20
  go_wp2_with fail
  refine (rcodes_new _ _ _ _ _ _ hl (Nat.le_refl _) hnl).mono ?_
  rintro e w1 ⟨g1, rfl, hc1, hb1, hg1⟩
  have h1 := h.keeps hb1
  have x10 := h1.cell.cell (i := 10) (by omega)
  have y10 := h1.cell.frozen' (i := 10) (by omega)
  have h2 := h1.put (i := 10) (by omega) (.slice (some ⟨g1, 0, none⟩) nl nl) { R with Alc := .slice (some ⟨g1, 0, none⟩) nl nl } (all13 rfl rfl rfl rfl rfl rfl rfl rfl rfl rfl rfl rfl rfl) rfl
  have hcg1 : Chg w1 (w1.setCell ⟨g, 10, none⟩ (.slice (some ⟨g1, 0, none⟩) nl nl)) (fun k => k = g) := (Chg.refl w1 (fun k => k = g)).setCell (p := ⟨g, 10, none⟩) (.inl rfl) _
  have x9 := h2.cell.cell (i := 9) (by omega)
  rw [show sF { R with Alc := .slice (some ⟨g1, 0, none⟩) nl nl } 9 = .slice Ad nd cd from HRD.out] at x9
  have hne1 : Hid (∀ (nn : Nat) (A : Option Addr), (0 < nn → ∀ ad, A = some ad → c ad.block = 0) → 0 < nn → ∀ ad, A = some ad → ¬ ad.block = g) := fun nn A hq h0 ad e e2 => by
    have := hq h0 ad e; rw [e2, h.cg] at this; exact absurd this (by decide)
  have hd2 := hcg1.rdI (hd.below hb1) hb1.size (fun h0 ad e => hne1.out nd Ad HCD.out h0 ad e)
  go_wp2_with fail
  refine (rcodes_new _ _ _ _ _ _ hd2 (Nat.le_trans hb1.size hcg1.size) hnd).mono ?_
  rintro e w3 ⟨g2, rfl, hc3, hb3, hg2⟩
  have h3 := h2.keeps hb3
  have x11 := h3.cell.cell (i := 11) (by omega)
  have y11 := h3.cell.frozen' (i := 11) (by omega)
  have h4 := h3.put (i := 11) (by omega) (.slice (some ⟨g2, 0, none⟩) nd nd) { R with Alc := .slice (some ⟨g1, 0, none⟩) nl nl, Adc := .slice (some ⟨g2, 0, none⟩) nd nd } (all13 rfl rfl rfl rfl rfl rfl rfl rfl rfl rfl rfl rfl rfl) rfl
  have hcg3 : Chg w3 (w3.setCell ⟨g, 11, none⟩ (.slice (some ⟨g2, 0, none⟩) nd nd)) (fun k => k = g) := (Chg.refl w3 (fun k => k = g)).setCell (p := ⟨g, 11, none⟩) (.inl rfl) _
  have hs2 : w.heap.size ≤ (w1.setCell ⟨g, 10, none⟩ (.slice (some ⟨g1, 0, none⟩) nl nl)).heap.size := Nat.le_trans hb1.size hcg1.size
  have hs3 := Nat.le_trans hs2 hb3.size
  have hcz : ∀ q, w.heap.size ≤ q → c q = 0 := fun q hq => by
    by_cases e : c q = 0
    · exact e
    · have := (h.cb q e).2; omega
  have hch : Chg w (w3.setCell ⟨g, 11, none⟩ (.slice (some ⟨g2, 0, none⟩) nd nd)) (fun k => c k ≠ 0) := by
    have a1 : Chg w w1 (fun k => c k ≠ 0) := Chg.of_below hb1
    have a2 := a1.trans hcg1 (fun k hk => .inl (by rw [hk, h.cg]; decide))
    have a3 : Chg w w3 (fun k => c k ≠ 0) := a2.trans (Chg.of_below (S := fun _ => False) hb3) (fun k hk => hk.elim)
    exact a3.trans hcg3 (fun k hk => .inl (by rw [hk, h.cg]; decide))
  have hDE : DE w.heap.size w c (w3.setCell ⟨g, 11, none⟩ (.slice (some ⟨g2, 0, none⟩) nd nd)) c → True := fun _ => trivial
  have hl4 : RdI .i64 (w3.setCell ⟨g, 11, none⟩ (.slice (some ⟨g2, 0, none⟩) nd nd)) w.heap.size Al nl s.lt := hch.rdI hl (Nat.le_refl _) (fun h0 ad e e2 => e2 (HCL.out h0 ad e))
  have hd4 : RdI .i64 (w3.setCell ⟨g, 11, none⟩ (.slice (some ⟨g2, 0, none⟩) nd nd)) w.heap.size Ad nd s.ds := hch.rdI hd (Nat.le_refl _) (fun h0 ad e e2 => e2 (HCD.out h0 ad e))
  have hlc4 : RdI .u32 (w3.setCell ⟨g, 11, none⟩ (.slice (some ⟨g2, 0, none⟩) nd nd)) w1.heap.size (some ⟨g1, 0, none⟩) nl (codesOf s.lt) := by
    have q1 := hcg1.rdI hc1 (Nat.le_refl _) (fun _ ad e e2 => by injection e with e; subst e; simp only at e2; omega)
    have q2 := q1.below (hb3.mono hcg1.size)
    exact hcg3.rdI q2 (Nat.le_trans hcg1.size hb3.size) (fun _ ad e e2 => by injection e with e; subst e; simp only at e2; omega)
  have hdc4 : RdI .u32 (w3.setCell ⟨g, 11, none⟩ (.slice (some ⟨g2, 0, none⟩) nd nd)) w3.heap.size (some ⟨g2, 0, none⟩) nd (codesOf s.ds) := hcg3.rdI hc3 (Nat.le_refl _) (fun _ ad e e2 => by injection e with e; subst e; simp only at e2; omega)
  have hD4 : ∀ w' R', RefS (w3.setCell ⟨g, 11, none⟩ (.slice (some ⟨g2, 0, none⟩) nd nd)) c w' b0 g R' → RefS w c w' b0 g R' := fun w' R' hr =>
    RefS.rebase h4 (DE.step (c' := c) (⟨Below.refl _ _, Chg.refl _ _, fun _ _ => rfl⟩ : DE b0 w c w c) h.lo (fun k hk => (h.cb k hk).1) hch (fun _ _ => rfl)) hr
  obtain ⟨wb, hwb⟩ : ∃ wb, w3.setCell ⟨g, 11, none⟩ (.slice (some ⟨g2, 0, none⟩) nd nd) = wb := ⟨_, rfl⟩
  have hlk : ∀ wr R', RefS wb c wr b0 g R' → RdI .i64 wr wr.heap.size Al nl s.lt ∧ RdI .i64 wr wr.heap.size Ad nd s.ds ∧ RdI .u32 wr wr.heap.size (some ⟨g1, 0, none⟩) nl (codesOf s.lt) ∧ RdI .u32 wr wr.heap.size (some ⟨g2, 0, none⟩) nd (codesOf s.ds) := fun wr R' hr => by
    obtain ⟨ha, -⟩ := hr.aside
    rw [hwb] at hl4 hd4 hlc4 hdc4
    have hsb : w3.heap.size ≤ wb.heap.size := by rw [← hwb]; exact hcg3.size
    have hs1 : w1.heap.size ≤ wb.heap.size := Nat.le_trans (Nat.le_trans hcg1.size hb3.size) hsb
    have hsw : w.heap.size ≤ wb.heap.size := Nat.le_trans hb1.size hs1
    refine ⟨(ha.rdI hl4 hsw (fun h0 ad e e2 => e2 (HCL.out h0 ad e))).more (Nat.le_trans hsw ha.size), (ha.rdI hd4 hsw (fun h0 ad e e2 => e2 (HCD.out h0 ad e))).more (Nat.le_trans hsw ha.size), (ha.rdI hlc4 hs1 (fun _ ad e e2 => ?_)).more (Nat.le_trans hs1 ha.size), (ha.rdI hdc4 hsb (fun _ ad e e2 => ?_)).more (Nat.le_trans hsb ha.size)⟩
    · injection e with e; subst e
      exact e2 (hcz _ hg1)
    · injection e with e; subst e
      exact e2 (hcz _ (Nat.le_trans hs2 hg2))
  rw [hwb] at h4
  have HLK := Lib.hid hlk
  have HD4 : Hid (∀ w' R', RefS wb c w' b0 g R' → RefS w c w' b0 g R') := fun w' R' hr => by rw [← hwb] at hr; exact hD4 w' R' hr
  have HWB := Lib.hid hwb
  have hinit : Hid (TokR wb c b0 g { R with Alc := .slice (some ⟨g1, 0, none⟩) nl nl, Adc := .slice (some ⟨g2, 0, none⟩) nd nd } s s.mu wb) :=
    ⟨_, s, h4.refl, .refl s, ⟨hL.x, hL.le, hL.out, hL.kinds, hL.stops, hL.toks, hL.most, hL.E, hL.bit, hL.len, hL.even, hL.small, hL.tk⟩, hO, HST.out, ⟨rfl, rfl, rfl, rfl, ⟨rfl, rfl, rfl, Nat.le_refl _⟩⟩, rfl, rfl, rfl⟩
  clear hwb hlk hD4 hDE hch hcz hl4 hd4 hlc4 hdc4 h4 h3 h2 h1 hl hd hd2 hc1 hc3
  go_wp2_with fail
  rw [HWB.out]
  have hR0 : ∃ R0 : RM, ({ R with Alc := .slice (some ⟨g1, 0, none⟩) nl nl, Adc := .slice (some ⟨g2, 0, none⟩) nd nd } : RM) = R0 ∧ R0.Al = .slice Al nl cl ∧ R0.Ad = .slice Ad nd cd ∧ R0.Alc = .slice (some ⟨g1, 0, none⟩) nl nl ∧ R0.Adc = .slice (some ⟨g2, 0, none⟩) nd nd ∧ Keep R R0 := ⟨_, rfl, HRL.out, HRD.out, rfl, rfl, ⟨rfl, rfl, rfl, Nat.le_refl _⟩⟩
  obtain ⟨R0, hR0, hR0l, hR0d, hR0lc, hR0dc, hR0X⟩ := hR0
  rw [hR0] at hinit
  have HR0 := Lib.hid (And.intro hR0l (And.intro hR0d (And.intro hR0lc (And.intro hR0dc hR0X))))
  clear hR0 hR0l hR0d hR0lc hR0dc hR0X hL hO
  go_loopg [] s.mu (TokR wb c b0 g R0 s)
  case atStart => exact hinit.out
  case round =>
    clear hinit
    obtain ⟨R1, t, h, hs, hL, hO, hst, hT, hk, hlt, hds⟩ := hrel
    have k8 := h.cell.cell (i := 8) (by omega)
    rw [show sF R1 8 = .slice Al nl cl from hT.Al.trans HR0.out.1] at k8
    have k10 := h.cell.cell (i := 10) (by omega)
    rw [show sF R1 10 = .slice (some ⟨g1, 0, none⟩) nl nl from hT.Alc.trans HR0.out.2.2.1] at k10
    have hlen := hL.len
    have hle := hL.le
    have hsm := hL.small
    have htk : Hid (t.step = t.token) := tok_step hst
    unfold IS.token at htk
    obtain ⟨K, hK⟩ : ∃ K, (nextOf t.lt t.x).1 = K := ⟨_, rfl⟩
    obtain ⟨n, hn⟩ : ∃ n, (nextOf t.lt t.x).2.1 = n := ⟨_, rfl⟩
    obtain ⟨E, hE⟩ : ∃ E, (nextOf t.lt t.x).2.2 = E := ⟨_, rfl⟩
    have herr : Hid (E = 0 ∨ E = 3 ∨ E = 5) := by have := nextOf_err t.lt t.x; rw [hE] at this; exact this
    have hsym : Hid (E = 0 → 0 ≤ K ∧ K < 288 ∧ n ≤ t.x.length) := fun h => by
      obtain ⟨k2, n2, e1, e2, e3, e4, e5⟩ := sym_read (l := t.lt) (x := t.x) hO.bit (by rw [hE, h]; simp)
      have h6 := (check_ok (hO.h6 (.inl hst)).1).1
      rw [e1] at hK hn
      simp at hK hn
      omega
    have hnpos : Hid (E = 0 → 1 ≤ n) := fun h => by have := nextOf_pos (l := t.lt) (x := t.x) (by rw [hE]; exact h); rw [hn] at this; exact this.1
    have hno : nextOf t.lt t.x = (K, n, E) := by rw [← hK, ← hn, ← hE]
    rw [hK, hn, hE] at htk
    have hsy : ∀ W, RefS wb c W b0 g R1 → Calls Try.prog 35 #[.pointer (some ⟨g, 0, none⟩), .slice Al nl cl, .slice (some ⟨g1, 0, none⟩) nl nl] W (SymPost wb c b0 g R1 K n E) := fun W hW => by
      obtain ⟨a1, a2, a3, a4⟩ := HLK.out W R1 hW
      exact rsym_any hW Al (some ⟨g1, 0, none⟩) nl cl nl s.lt a1 a3 hnl HLL.out (by omega) hL.bit hle K n E (by rw [hL.x, ← hlt.out]; exact hno)
    have HSY := Lib.hid hsy
    have HST2 := Lib.hid hst
    clear hK hn hE hno hsy hst
    by_cases hE0 : E = 0
    · subst hE0
      obtain ⟨hK0, hK19, hnx⟩ := hsym.out rfl
      have htk1 := Lib.hid (htk.out.trans (if_neg (by decide)))
      have hsy1 : ∀ W, RefS wb c W b0 g R1 → Calls Try.prog 35 #[.pointer (some ⟨g, 0, none⟩), .slice Al nl cl, .slice (some ⟨g1, 0, none⟩) nl nl] W fun e w' => e = .returned (.tuple #[.int .i64 K, .bool true]) ∧ RefS wb c w' b0 g { R1 with at_ := R1.at_ + n } := fun W hW => by
        refine (HSY.out W hW).mono ?_
        rintro e w' (⟨-, h1, h2⟩ | ⟨h1, -⟩)
        · exact ⟨h1, h2⟩
        · exact absurd rfl h1
      have HSY1 := Lib.hid hsy1
      have HN1 : Hid (1 ≤ n) := hnpos.out rfl
      have hxl : t.x.length = R1.X.length - R1.at_ := by rw [← hL.x, List.length_drop]
      have hxn : Hid (R1.X.drop (R1.at_ + n) = t.x.drop n) := by show _ = _; rw [← hL.x, List.drop_drop]
      have hatn : Hid (R1.at_ + n ≤ R1.X.length) := by show _ ≤ _; omega
      clear htk hsym herr HSY hsy1 hxl hnpos
      go_wp2_with fail
      go_cut [3, 4] (fun s3 s4 wx => s3 = .int .i64 K ∧ s4 = .bool true ∧ RefS wb c wx b0 g { R1 with at_ := R1.at_ + n })
      case first =>
        go_region_law
          ((go_simp; go_at_call 35; (refine (HSY1.out _ (by first | exact h | exact h.drew | exact h.drewN _)).mono ?_))
           rintro e w5 ⟨rfl, h5⟩)
        all_goals
          go_wp2_with fail
          go_meet
          exact ⟨rfl, rfl, h5⟩
      case rest =>
        obtain ⟨rfl, rfl, h5⟩ := hcut
        clear k8 k10 h
        by_cases hK256 : K = 256
        · have hs2 := Lib.hid (htk1.out.trans ((if_neg (by omega)).trans (if_pos hK256)))
          clear htk1
          subst hK256
          go_wp2_with fail
          go_ret
          refine .inl ⟨_, t, t.x.drop n, rfl, HD4.out _ _ h5, hs, hs2.out, ⟨hxn.out, hatn.out, hL.out, hL.kinds, hL.stops, hL.toks, hL.most, hL.E, hL.bit, hL.len, hL.even, hL.small, Nat.le_trans hL.tk (by show R1.at_ ≤ R1.at_ + n; omega)⟩, ?_⟩
          have a1 := HR0.out.2.2.2.2
          exact ⟨hT.keep.X.trans a1.X, hT.keep.kinds.trans a1.kinds, hT.keep.stops.trans a1.stops, Nat.le_trans a1.le (Nat.le_trans hT.keep.le (by show R1.at_ ≤ R1.at_ + n; omega))⟩
        · have hKf : (K == 256) = false := by simpa using hK256
          by_cases hKl : K < 256
          · have hs2 := Lib.hid (htk1.out.trans (if_pos hKl))
            unfold IS.emit at hs2
            have hnt : R1.nt = R1.toks.length := h5.toks.1
            have hntb : R1.nt + 1 ≤ 1000000000000 := by have := hL.tk; omega
            have hnp : 1 ≤ n := HN1.out
            have hap := h5.apart.2.2.2
            have hgr := h5.cell.lt
            have k12 := h5.cell.cell (i := 12) (by omega)
            rw [show sF { R1 with at_ := R1.at_ + n } 12 = .slice R1.At R1.nt R1.ct from rfl] at k12
            have hlo5 := h5.lo
            have hoA : OwnT (wc.alloc (.cells #[.int .u8 K, .int .i64 0, .int .i64 0] 68)) b0 R1.At R1.nt R1.ct R1.toks := ⟨h5.toks.1, h5.toks.2.alloc _⟩
            have hlit := RdT.lit' wc (Tok.mk K 0 0)
            have hol : R1.out.length = t.all.length := by rw [hL.out]
            have hmost := hL.most
            have hem0 : t.rem = 0 → ∀ W R2, R2.out = R1.out → R2.most = R1.most → RefS wb c W b0 g R2 → Calls Try.prog 33 #[.pointer (some ⟨g, 0, none⟩), .int .u8 K] W fun e w' => e = .returned (.bool false) ∧ RefS wb c w' b0 g { R2 with E := 6 } := fun hz W R2 h1 h2 hW => remit_not hW K (by rw [h2, h1, hmost]; omega)
            have hem1 : t.rem ≠ 0 → ∀ W R2, R2.out = R1.out → R2.most = R1.most → RefS wb c W b0 g R2 → Calls Try.prog 33 #[.pointer (some ⟨g, 0, none⟩), .int .u8 K] W (EmPost wb c b0 g R2 K) := fun hz W R2 h1 h2 hW => remit_ok hW K (by rw [h2, h1, hmost]; omega) (by rw [h1]; omega)
            have HEM0 := Lib.hid hem0
            have HEM1 := Lib.hid hem1
            have HSM := Lib.hid hsm
            clear hem0 hem1 hol hmost hsm hnt hK256 htk1
            go_wp2_with (at_builtin; (refine wpList_appT b0 i0 rfl (.tmp 50) (.tmp 54) rfl Hi.out Hz0.out Hz1.out Hz2.out rfl hoA rfl hlit hntb (by simp; omega) ?_)
                         intro A4 d4 w4 hown4 hg4 hat4
                         have har4 := (h5.cell.alloc (.cells #[.int .u8 K, .int .i64 0, .int .i64 0] 68)).grown hg4 (fun e => hap e.symm)
                         have x12 := har4.cell (i := 12) (by omega)
                         have z12 := har4.frozen' (i := 12) (by omega))
            have h6 := h5.pushT (Tok.mk K 0 0) hg4 hown4 hat4
            by_cases hz : t.rem = 0
            · have hs3 : Hid (t.step = ({ t with x := t.x.drop n, toks := t.toks ++ [Tok.mk K 0 0], all := t.all ++ [K].take t.rem, rem := t.rem - [K].length }, 6)) := hs2.out.trans (by rw [if_pos (by simp; omega)])
              have he := Lib.hid (HEM0.out hz _ { R1 with at_ := R1.at_ + n, At := A4, nt := R1.nt + 1, ct := d4, toks := R1.toks ++ [Tok.mk K 0 0] } rfl rfl h6)
              have HZ := Lib.hid hz
              clear hz
              refine he.out.mono ?_
              rintro e w7 ⟨rfl, h7⟩
              go_wp2_with fail
              go_ret
              exact BlkPost.bad hs hs3.out (by decide) (by decide) (HD4.out _ _ h7) ⟨by show R1.out = t.all ++ [K].take t.rem; rw [HZ.out, hL.out]; simp, hL.kinds, hL.stops, by show R1.toks ++ _ = t.toks ++ _; rw [hL.toks], rfl⟩
            · have hs3 : Hid (t.step = ({ t with x := t.x.drop n, toks := t.toks ++ [Tok.mk K 0 0], all := t.all ++ [K].take t.rem, rem := t.rem - [K].length }, 0)) := hs2.out.trans (by rw [if_neg (by simp; omega)])
              have he := Lib.hid (HEM1.out hz _ { R1 with at_ := R1.at_ + n, At := A4, nt := R1.nt + 1, ct := d4, toks := R1.toks ++ [Tok.mk K 0 0] } rfl rfl h6)
              have hrt : Hid ([K].take t.rem = [K]) := List.take_of_length_le (by simp; omega)
              have HZ := Lib.hid hz
              clear hz
              refine he.out.mono ?_
              rintro e w7 ⟨A8, n8, c8, rfl, h7⟩
              have hmu2 : Hid (t.step.1.mu < t.mu) := IS.mu_step (by rw [hs3.out])
              go_wp2_with fail
              go_roundg t.step.1.mu
              case measure => have := hk.out; have := hmu2.out; omega
              case rel =>
                have hO2 := hO.step (.inl (by rw [hs3.out]))
                have hS2 := IS.Steps.tail hs (by rw [hs3.out])
                rw [hs3.out] at hO2 hS2 ⊢
                refine ⟨_, _, h7, hS2, ⟨hxn.out, hatn.out, ?_, hL.kinds, hL.stops, by show R1.toks ++ _ = t.toks ++ _; rw [hL.toks], ?_, hL.E, hL.bit, hL.len, hL.even, ?_, ?_⟩, hO2, HST2.out, ⟨hT.Al, hT.Ad, hT.Alc, hT.Adc, ⟨hT.keep.X, hT.keep.kinds, hT.keep.stops, Nat.le_trans hT.keep.le (by show R1.at_ ≤ R1.at_ + n; omega)⟩⟩, rfl, hlt.out, hds.out⟩
                · show R1.out ++ [K] = t.all ++ [K].take t.rem
                  rw [hrt.out, hL.out]
                · show R1.most = (((t.all ++ [K].take t.rem).length + (t.rem - [K].length) : Nat) : Int)
                  rw [hL.most, hrt.out, List.length_append]
                  have := HZ.out
                  simp; omega
                · show (t.all ++ [K].take t.rem).length + (t.rem - [K].length) ≤ _
                  rw [hrt.out, List.length_append]
                  have := HZ.out; have := HSM.out
                  simp; omega
                · show (R1.toks ++ [_]).length ≤ R1.at_ + n
                  rw [List.length_append]
                  have := hL.tk; have := HN1.out
                  simp; omega
          · have hst3 := Lib.hid (htk1.out.trans ((if_neg hKl).trans (if_neg hK256)))
            clear htk1
            by_cases hK3 : 285 < K
            · have hs2 := Lib.hid (hst3.out.trans (if_pos hK3))
              have hln := Lib.hid (lens_no K (.inr hK3) wc)
              have k1 := h5.cell.cell (i := 1) (by omega)
              have z1 := h5.cell.frozen' (i := 1) (by omega)
              have h6 := h5.put (i := 1) (by omega) (.int .i64 3) { R1 with at_ := R1.at_ + n, E := 3 } (all13 rfl rfl rfl rfl rfl rfl rfl rfl rfl rfl rfl rfl rfl) rfl
              clear hst3 hK256
              go_wp2_with fail
              refine hln.out.mono ?_
              rintro e w6 ⟨rfl, rfl⟩
              go_wp2_with fail
              go_ret
              exact BlkPost.bad hs hs2.out (by decide) (by decide) (HD4.out _ _ h6) ⟨hL.out, hL.kinds, hL.stops, hL.toks, rfl⟩
            · have hst4 := Lib.hid (hst3.out.trans (if_neg hK3))
              obtain ⟨j, hj⟩ : ∃ j, (K - 257).toNat = j := ⟨_, rfl⟩
              have hj29 : j < 29 := by omega
              have hln := lens_ok K j hj29 (by omega) wc
              rw [hj] at hst4
              have hbd := lB_bd j hj29
              have hsumL := fun v => @lB_sum j v hj29
              obtain ⟨LB, hLB⟩ : ∃ LB, lB j = LB := ⟨_, rfl⟩
              obtain ⟨LE, hLE⟩ : ∃ LE, lE j = LE := ⟨_, rfl⟩
              rw [hLB, hLE] at hln hst4 hbd hsumL
              have HLN := Lib.hid hln
              have hxl2 : (t.x.drop n).length = R1.X.length - (R1.at_ + n) := by rw [← hxn.out, List.length_drop]
              have hlenb := hL.len
              have hat2 := hatn.out
              have hLI : (0 : Int) ≤ LB ∧ (LB : Int) ≤ 258 ∧ (0 : Int) ≤ LE ∧ (LE : Int) ≤ 5 := by omega
              clear hst3 hj hj29 hLB hLE hln hK256
              by_cases hlk : (t.x.drop n).length < LE
              · have hs2 := Lib.hid (hst4.out.trans (if_pos hlk))
                have ht := Lib.hid (rtake_not h5 LE (by omega) (by show R1.X.length ≤ _; omega) hat2 (by show R1.X.length < R1.at_ + n + LE; omega))
                clear hlk hxl2 hst4 hsumL hbd
                go_wp2_with fail
                refine HLN.out.mono ?_
                rintro e w6 ⟨rfl, rfl⟩
                go_wp2_with fail
                refine ht.out.mono ?_
                rintro e w7 ⟨rfl, h7⟩
                go_wp2_with fail
                go_ret
                exact BlkPost.bad hs hs2.out (by decide) (by decide) (HD4.out _ _ h7) ⟨hL.out, hL.kinds, hL.stops, hL.toks, rfl⟩
              · have hs2 := Lib.hid (hst4.out.trans (if_neg hlk))
                have hvlt := num_lt (hO.bit.drop_ n) LE
                have hL2 := hsumL _ hvlt
                obtain ⟨V, hV⟩ : ∃ V, num (t.x.drop n) LE = V := ⟨_, rfl⟩
                have ht := Lib.hid (rtake_ok h5 LE (by omega) (by show R1.X.length ≤ _; omega) hL.bit (by show R1.at_ + n + LE ≤ R1.X.length; omega) (V : Int) (by show _ = ((num (R1.X.drop (R1.at_ + n)) LE : Nat) : Int); rw [hxn.out, hV]))
                rw [hV] at hs2 hL2 hvlt
                obtain ⟨L, hLL⟩ : ∃ L, LB + V = L := ⟨_, rfl⟩
                rw [hLL] at hs2 hL2
                have hLi : (LB : Int) + (V : Int) = (L : Int) := by omega
                have hLw : IntKind.i64.wrap ((LB : Int) + (V : Int)) = (L : Int) := by rw [IntWalk.i64_in _ (by omega)]; omega
                have hVI : (0 : Int) ≤ V ∧ (V : Int) ≤ 258 ∧ (3 : Int) ≤ L ∧ (L : Int) ≤ 258 := by omega
                have hx2 : Hid (R1.X.drop (R1.at_ + n + LE) = (t.x.drop n).drop LE) := by show _ = _; rw [← hxn.out, List.drop_drop]
                have hat3 : Hid (R1.at_ + n + LE ≤ R1.X.length) := by show _ ≤ _; omega
                have hO1 := hO.step (.inl (by rw [hs2.out]))
                have hS1 := IS.Steps.tail hs (by rw [hs2.out])
                rw [hs2.out] at hO1 hS1
                have hm1 : Hid (t.step.1.mu < t.mu) := IS.mu_step (by rw [hs2.out])
                obtain ⟨t1, ht1⟩ : ∃ t1 : IS, ({ t with x := (t.x.drop n).drop LE, len := L, st := 7 } : IS) = t1 := ⟨_, rfl⟩
                have ht1f : t1.x = (t.x.drop n).drop LE ∧ t1.ds = t.ds ∧ t1.lt = t.lt ∧ t1.len = L ∧ t1.st = 7 ∧ t1.all = t.all ∧ t1.rem = t.rem ∧ t1.toks = t.toks ∧ t1.kinds = t.kinds ∧ t1.stops = t.stops := by rw [← ht1]; exact ⟨rfl, rfl, rfl, rfl, rfl, rfl, rfl, rfl, rfl, rfl⟩
                have hm2 : Hid (t1.mu < t.mu) := by have := hm1.out; rw [hs2.out] at this; rw [← ht1]; exact this
                rw [ht1] at hO1 hS1
                have hO1 : t1.Ok := hO1
                have hS1 : IS.Steps s t1 := hS1
                have HT1 := Lib.hid ht1f
                clear hs2 hlk hxl2 hst4 hsumL hbd hV hvlt hLL hm1 ht1f ht1 hL2 hlenb hat2
                have hdk : Hid (t1.step = t1.dist) := dist_step HT1.out.2.2.2.2.1
                unfold IS.dist at hdk
                obtain ⟨K2, hK2⟩ : ∃ K, (nextOf t1.ds t1.x).1 = K := ⟨_, rfl⟩
                obtain ⟨n2, hn2⟩ : ∃ n, (nextOf t1.ds t1.x).2.1 = n := ⟨_, rfl⟩
                obtain ⟨E2, hE2⟩ : ∃ E, (nextOf t1.ds t1.x).2.2 = E := ⟨_, rfl⟩
                have herr2 : Hid (E2 = 0 ∨ E2 = 3 ∨ E2 = 5) := by have := nextOf_err t1.ds t1.x; rw [hE2] at this; exact this
                have hsym2 : Hid (E2 = 0 → 0 ≤ K2 ∧ K2 < 288 ∧ n2 ≤ t1.x.length) := fun h => by
                  obtain ⟨k2, n3, e1, e2, e3, e4, e5⟩ := sym_read (l := t1.ds) (x := t1.x) hO1.bit (by rw [hE2, h]; simp)
                  have h6 := (check_ok (hO1.h6 (.inr HT1.out.2.2.2.2.1)).2).1
                  rw [e1] at hK2 hn2
                  simp at hK2 hn2
                  omega
                have hno2 : nextOf t1.ds t1.x = (K2, n2, E2) := by rw [← hK2, ← hn2, ← hE2]
                rw [hK2, hn2, hE2] at hdk
                have hsy2 : ∀ W, RefS wb c W b0 g { R1 with at_ := R1.at_ + n + LE } → Calls Try.prog 35 #[.pointer (some ⟨g, 0, none⟩), .slice Ad nd cd, .slice (some ⟨g2, 0, none⟩) nd nd] W (SymPost wb c b0 g { R1 with at_ := R1.at_ + n + LE } K2 n2 E2) := fun W hW => by
                  obtain ⟨a1, a2, a3, a4⟩ := HLK.out W _ hW
                  exact rsym_any hW Ad (some ⟨g2, 0, none⟩) nd cd nd s.ds a2 a4 hnd HDL.out (by show R1.X.length ≤ _; omega) hL.bit hat3.out K2 n2 E2 (by show nextOf s.ds (R1.X.drop (R1.at_ + n + LE)) = _; rw [hx2.out, ← hds.out, ← HT1.out.2.1, ← HT1.out.1]; exact hno2)
                have HSY2 := Lib.hid hsy2
                clear hK2 hn2 hE2 hno2 hsy2
                go_wp2_with fail
                refine HLN.out.mono ?_
                rintro e w6 ⟨rfl, rfl⟩
                go_wp2_with fail
                refine ht.out.mono ?_
                rintro e w7 ⟨rfl, h7⟩
                have k9 := h7.cell.cell (i := 9) (by omega)
                rw [show sF { R1 with at_ := R1.at_ + n + LE } 9 = .slice Ad nd cd from hT.Ad.trans HR0.out.2.1] at k9
                have k11 := h7.cell.cell (i := 11) (by omega)
                rw [show sF { R1 with at_ := R1.at_ + n + LE } 11 = .slice (some ⟨g2, 0, none⟩) nd nd from hT.Adc.trans HR0.out.2.2.2.1] at k11
                clear h5 ht HLN
                by_cases hE0 : E2 = 0
                · subst hE0
                  obtain ⟨hK20, hK219, hnx2⟩ := hsym2.out rfl
                  have hdk1 := Lib.hid (hdk.out.trans (if_neg (by decide)))
                  have hsy1 : ∀ W, RefS wb c W b0 g { R1 with at_ := R1.at_ + n + LE } → Calls Try.prog 35 #[.pointer (some ⟨g, 0, none⟩), .slice Ad nd cd, .slice (some ⟨g2, 0, none⟩) nd nd] W fun e w' => e = .returned (.tuple #[.int .i64 K2, .bool true]) ∧ RefS wb c w' b0 g { R1 with at_ := R1.at_ + n + LE + n2 } := fun W hW => by
                    refine (HSY2.out W hW).mono ?_
                    rintro e w' (⟨-, h1, h2⟩ | ⟨h1, -⟩)
                    · exact ⟨h1, h2⟩
                    · exact absurd rfl h1
                  have HSY3 := Lib.hid hsy1
                  have hxl3 : t1.x.length = R1.X.length - (R1.at_ + n + LE) := by rw [HT1.out.1, ← hx2.out, List.length_drop]
                  have hx3 : Hid (R1.X.drop (R1.at_ + n + LE + n2) = t1.x.drop n2) := by show _ = _; rw [HT1.out.1, ← hx2.out, List.drop_drop]
                  have hat4 : Hid (R1.at_ + n + LE + n2 ≤ R1.X.length) := by show _ ≤ _; have := hat3.out; omega
                  have hREnd : ∀ (R' : RM) (v : Int), R'.out = R1.out → R'.kinds = R1.kinds → R'.stops = R1.stops → R'.toks = R1.toks → R'.E = v → REnd R' t1 v := fun R' v a1 a2 a3 a4 a5 => ⟨by rw [HT1.out.2.2.2.2.2.1, a1]; exact hL.out, by rw [HT1.out.2.2.2.2.2.2.2.2.1, a2]; exact hL.kinds, by rw [HT1.out.2.2.2.2.2.2.2.2.2, a3]; exact hL.stops, by rw [HT1.out.2.2.2.2.2.2.2.1, a4]; exact hL.toks, a5⟩
                  have HREND := Lib.hid hREnd
                  clear hdk hsym2 herr2 HSY2 hsy1 hxl3 hREnd
                  go_wp2_with fail
                  go_cut [3, 4] (fun s3 s4 wx => s3 = .int .i64 K2 ∧ s4 = .bool true ∧ RefS wb c wx b0 g { R1 with at_ := R1.at_ + n + LE + n2 })
                  case first =>
                    go_region_law
                      ((go_simp; go_at_call 35; (refine (HSY3.out _ (by first | exact h7 | exact h7.drew | exact h7.drewN _)).mono ?_))
                       rintro e w5 ⟨rfl, h8⟩)
                    all_goals
                      go_wp2_with fail
                      go_meet
                      exact ⟨rfl, rfl, h8⟩
                  case rest =>
                    rename World => wd
                    obtain ⟨rfl, rfl, h8⟩ := hcut
                    clear k9 k11 h7
                    by_cases hK3' : 29 < K2
                    · have hs3 := Lib.hid (hdk1.out.trans (if_pos hK3'))
                      have hdn := Lib.hid (dists_no K2 (.inr hK3') wd)
                      have k1 := h8.cell.cell (i := 1) (by omega)
                      have z1 := h8.cell.frozen' (i := 1) (by omega)
                      have h9 := h8.put (i := 1) (by omega) (.int .i64 3) { R1 with at_ := R1.at_ + n + LE + n2, E := 3 } (all13 rfl rfl rfl rfl rfl rfl rfl rfl rfl rfl rfl rfl rfl) rfl
                      clear hdk1
                      go_wp2_with fail
                      refine hdn.out.mono ?_
                      rintro e w6 ⟨rfl, rfl⟩
                      go_wp2_with fail
                      go_ret
                      exact BlkPost.bad hS1 hs3.out (by decide) (by decide) (HD4.out _ _ h9) (HREND.out _ _ rfl rfl rfl rfl rfl)
                    · have hdk2 := Lib.hid (hdk1.out.trans (if_neg hK3'))
                      obtain ⟨j2, hj2⟩ : ∃ j, K2.toNat = j := ⟨_, rfl⟩
                      have hj30 : j2 < 30 := by omega
                      have hdn := dists_ok K2 j2 hj30 (by omega) wd
                      rw [hj2] at hdk2
                      have hbd2 : dB j2 ≤ 32768 ∧ dE j2 ≤ 13 := by
                        have : ∀ j, j < 30 → dB j ≤ 32768 ∧ dE j ≤ 13 := by decide +kernel
                        exact this j2 hj30
                      have hsumD := fun v => @dB_sum j2 v hj30
                      obtain ⟨DB, hDB⟩ : ∃ DB, dB j2 = DB := ⟨_, rfl⟩
                      obtain ⟨D2, hD2⟩ : ∃ D2, dE j2 = D2 := ⟨_, rfl⟩
                      rw [hDB, hD2] at hdn hdk2 hbd2 hsumD
                      have HDN := Lib.hid hdn
                      have hxl4 : (t1.x.drop n2).length = R1.X.length - (R1.at_ + n + LE + n2) := by rw [← hx3.out, List.length_drop]
                      have hat5 := hat4.out
                      have hDI : (0 : Int) ≤ DB ∧ (DB : Int) ≤ 32768 ∧ (0 : Int) ≤ D2 ∧ (D2 : Int) ≤ 13 := by omega
                      clear hdk1 hj2 hj30 hDB hD2 hdn
                      by_cases hlk : (t1.x.drop n2).length < D2
                      · have hs3 := Lib.hid (hdk2.out.trans (if_pos hlk))
                        have ht := Lib.hid (rtake_not h8 D2 (by omega) (by show R1.X.length ≤ _; omega) hat5 (by show R1.X.length < R1.at_ + n + LE + n2 + D2; omega))
                        clear hlk hxl4 hdk2 hsumD hbd2 hat5
                        go_wp2_with fail
                        refine HDN.out.mono ?_
                        rintro e w6 ⟨rfl, rfl⟩
                        go_wp2_with fail
                        refine ht.out.mono ?_
                        rintro e w7 ⟨rfl, h9⟩
                        go_wp2_with fail
                        go_ret
                        exact BlkPost.bad hS1 hs3.out (by decide) (by decide) (HD4.out _ _ h9) (HREND.out _ _ rfl rfl rfl rfl rfl)
                      · have hdk3 := Lib.hid (hdk2.out.trans (if_neg hlk))
                        unfold IS.text at hdk3
                        have hvlt := num_lt (hO1.bit.drop_ n2) D2
                        have hDD := hsumD _ hvlt
                        obtain ⟨V2, hV2⟩ : ∃ V, num (t1.x.drop n2) D2 = V := ⟨_, rfl⟩
                        have ht := Lib.hid (rtake_ok h8 D2 (by omega) (by show R1.X.length ≤ _; omega) hL.bit (by show R1.at_ + n + LE + n2 + D2 ≤ R1.X.length; omega) (V2 : Int) (by show _ = ((num (R1.X.drop (R1.at_ + n + LE + n2)) D2 : Nat) : Int); rw [hx3.out, hV2]))
                        rw [hV2] at hdk3 hDD hvlt
                        obtain ⟨D, hDs⟩ : ∃ D, DB + V2 = D := ⟨_, rfl⟩
                        rw [hDs] at hdk3 hDD
                        have hDi : (DB : Int) + (V2 : Int) = (D : Int) := by omega
                        have hDw : IntKind.i64.wrap ((DB : Int) + (V2 : Int)) = (D : Int) := by rw [IntWalk.i64_in _ (by omega)]; omega
                        have hDI2 : (1 : Int) ≤ D ∧ (D : Int) ≤ 32768 ∧ (0 : Int) ≤ V2 ∧ (V2 : Int) ≤ 32768 := by omega
                        have hx4 : Hid (R1.X.drop (R1.at_ + n + LE + n2 + D2) = (t1.x.drop n2).drop D2) := by show _ = _; rw [← hx3.out, List.drop_drop]
                        have hat6 : Hid (R1.at_ + n + LE + n2 + D2 ≤ R1.X.length) := by show _ ≤ _; omega
                        have hno1 : R1.no = R1.out.length := h8.out.1
                        have hol : R1.out.length = t1.all.length := by rw [HT1.out.2.2.2.2.2.1, hL.out]
                        clear hlk hxl4 hdk2 hsumD hbd2 hat5 hV2 hvlt hDs
                        rw [HT1.out.2.2.2.1] at hdk3
                        by_cases hfar : (R1.no : Int) < (D : Int)
                        · have hs3 := Lib.hid (hdk3.out.trans (if_pos (by omega)))
                          clear hdk3 hno1 hol
                          go_wp2_with fail
                          refine HDN.out.mono ?_
                          rintro e w6 ⟨rfl, rfl⟩
                          go_wp2_with fail
                          refine ht.out.mono ?_
                          rintro e w7 ⟨rfl, h9⟩
                          have k0 := h9.cell.cell (i := 0) (by omega)
                          rw [show sF { R1 with at_ := R1.at_ + n + LE + n2 + D2 } 0 = .slice R1.Ao R1.no R1.co from rfl] at k0
                          have k1 := h9.cell.cell (i := 1) (by omega)
                          have z1 := h9.cell.frozen' (i := 1) (by omega)
                          have h10 := h9.put (i := 1) (by omega) (.int .i64 3) { R1 with at_ := R1.at_ + n + LE + n2 + D2, E := 3 } (all13 rfl rfl rfl rfl rfl rfl rfl rfl rfl rfl rfl rfl rfl) rfl
                          go_wp2_with fail
                          go_ret
                          exact BlkPost.bad hS1 hs3.out (by decide) (by decide) (HD4.out _ _ h10) (HREND.out _ _ rfl rfl rfl rfl rfl)
                        · have hs3 := Lib.hid (hdk3.out.trans (if_neg (by omega)))
                          unfold IS.emit at hs3
                          have hDle : D ≤ t1.all.length := by omega
                          have hnt : R1.nt = R1.toks.length := h8.toks.1
                          have hntb : R1.nt + 1 ≤ 1000000000000 := by have := hL.tk; omega
                          have HOL := Lib.hid hol
                          have HFAR := Lib.hid hfar
                          have hmost := hL.most
                          rw [← HT1.out.2.2.2.2.2.1, ← HT1.out.2.2.2.2.2.2.1] at hmost
                          have hsm1 := hsm
                          rw [← HT1.out.2.2.2.2.2.1, ← HT1.out.2.2.2.2.2.2.1] at hsm1
                          have HMO := Lib.hid hmost
                          have HSM := Lib.hid hsm1
                          have hnoI : (D : Int) ≤ (R1.no : Int) ∧ (R1.no : Int) ≤ 1000000000 := by omega
                          have hL3 : 3 ≤ L ∧ L ≤ 258 := by omega
                          clear hdk3 hno1 hol hmost hsm1 hsm hnt
                          go_wp2_with fail
                          refine HDN.out.mono ?_
                          rintro e w6 ⟨rfl, rfl⟩
                          go_wp2_with fail
                          refine ht.out.mono ?_
                          rintro e w7 ⟨rfl, h9⟩
                          have k0 := h9.cell.cell (i := 0) (by omega)
                          rw [show sF { R1 with at_ := R1.at_ + n + LE + n2 + D2 } 0 = .slice R1.Ao R1.no R1.co from rfl] at k0
                          have k12 := h9.cell.cell (i := 12) (by omega)
                          rw [show sF { R1 with at_ := R1.at_ + n + LE + n2 + D2 } 12 = .slice R1.At R1.nt R1.ct from rfl] at k12
                          have hap := h9.apart.2.2.2
                          have hgr := h9.cell.lt
                          have hlo9 := h9.lo
                          have hoA : OwnT (w7.alloc (.cells #[.int .u8 0, .int .i64 L, .int .i64 D] 68)) b0 R1.At R1.nt R1.ct R1.toks := ⟨h9.toks.1, h9.toks.2.alloc _⟩
                          have hlit := RdT.lit' w7 (Tok.mk 0 L D)
                          go_wp2_with (at_builtin; (refine wpList_appT b0 i0 rfl (.tmp 136) (.tmp 140) rfl Hi.out Hz0.out Hz1.out Hz2.out rfl hoA rfl hlit hntb (by simp; omega) ?_)
                                       intro A4 d4 w4 hown4 hg4 hat4
                                       have har4 := (h9.cell.alloc (.cells #[.int .u8 0, .int .i64 L, .int .i64 D] 68)).grown hg4 (fun e => hap e.symm)
                                       have x12 := har4.cell (i := 12) (by omega)
                                       have z12 := har4.frozen' (i := 12) (by omega))
                          have h10 := h9.pushT (Tok.mk 0 L D) hg4 hown4 hat4
                          obtain ⟨R3, hR3⟩ : ∃ R3 : RM, ({ R1 with at_ := R1.at_ + n + LE + n2 + D2, At := A4, nt := R1.nt + 1, ct := d4, toks := R1.toks ++ [Tok.mk 0 L D] } : RM) = R3 := ⟨_, rfl⟩
                          have hR3f : R3.out = R1.out ∧ R3.most = R1.most ∧ R3.kinds = R1.kinds ∧ R3.stops = R1.stops ∧ R3.toks = R1.toks ++ [Tok.mk 0 L D] ∧ R3.at_ = R1.at_ + n + LE + n2 + D2 ∧ R3.X = R1.X ∧ R3.E = R1.E ∧ R3.Al = R1.Al ∧ R3.Ad = R1.Ad ∧ R3.Alc = R1.Alc ∧ R3.Adc = R1.Adc := by rw [← hR3]; exact ⟨rfl, rfl, rfl, rfl, rfl, rfl, rfl, rfl, rfl, rfl, rfl, rfl⟩
                          rw [hR3] at h10
                          have HR3 := Lib.hid hR3f
                          clear hR3 hR3f h9 h8 k0 k12 hown4 hg4 hat4 har4 x12 z12 hoA hlit
                          go_loopg [10] L (EmR wb c b0 g R3 t1 D L)
                          case atStart => exact ⟨0, R3.Ao, R3.no, R3.co, Nat.zero_le _, Nat.zero_le _, rfl, rfl, by rw [again_zero, List.append_nil, HT1.out.2.2.2.2.2.1, ← hL.out, ← HR3.out.1]; exact h10⟩
                          case round =>
                            clear h10
                            obtain ⟨j, Ao, no, co, hj, hjr, hkj, rfl, h⟩ := hrel
                            by_cases hjL : (j : Int) < (L : Int)
                            · have k0 := h.cell.cell (i := 0) (by omega)
                              rw [show sF { R3 with Ao := Ao, no := no, co := co, out := t1.all ++ again t1.all D j } 0 = .slice Ao no co from rfl] at k0
                              have hno2 : no = (t1.all ++ again t1.all D j).length := h.out.1
                              rw [List.length_append, again_length] at hno2
                              have hag := again_succ t1.all D j (by omega) hDle
                              obtain ⟨Q, hQ⟩ : ∃ Q, t1.all.length + j - D = Q := ⟨_, rfl⟩
                              have hQn : Q < no := by omega
                              obtain ⟨ad, rfl, hbl, c1o⟩ := h.out.rd.at_ (i := Q) hQn
                              obtain ⟨v, hv⟩ : ∃ v : Int, ix (t1.all ++ again t1.all D j) Q = v := ⟨_, rfl⟩
                              have c1 : wr.cell? (ad.add Q) = some (.int .u8 v) := by rw [← hv]; exact c1o
                              clear c1o
                              rw [hQ, hv] at hag
                              have hag2 : Hid (again t1.all D (j + 1) = again t1.all D j ++ [v]) := hag
                              have hwQ : IntKind.i64.wrap ((no : Int) - (D : Int)) = (Q : Int) := by rw [IntWalk.i64_in _ (by have := HSM.out; have := hjr.out; omega)]; omega
                              have hQI : (0 : Int) ≤ Q ∧ (Q : Int) < (no : Int) := by omega
                              have hsmj := HSM.out
                              have hjr2 := hjr.out
                              by_cases hz : t1.rem = j
                              · have hem : ∀ W, RefS wb c W b0 g { R3 with Ao := some ad, no := no, co := co, out := t1.all ++ again t1.all D j } → Calls Try.prog 33 #[.pointer (some ⟨g, 0, none⟩), .int .u8 v] W fun e w' => e = .returned (.bool false) ∧ RefS wb c w' b0 g { R3 with Ao := some ad, no := no, co := co, out := t1.all ++ again t1.all D j, E := 6 } := fun W hW => remit_not hW v (by show R3.most ≤ (((t1.all ++ again t1.all D j).length : Nat) : Int); rw [HR3.out.2.1, HMO.out, List.length_append, again_length]; omega)
                                have HEM := Lib.hid hem
                                have hs4 : Hid (∃ t' : IS, t1.step = (t', 6) ∧ t'.all = t1.all ++ (again t1.all D L).take t1.rem ∧ t'.kinds = t1.kinds ∧ t'.stops = t1.stops ∧ t'.toks = t1.toks ++ [Tok.mk 0 L D]) := ⟨{ t1 with x := (t1.x.drop n2).drop D2, st := 6, len := L, toks := t1.toks ++ [Tok.mk 0 L D], all := t1.all ++ (again t1.all D L).take t1.rem, rem := t1.rem - (again t1.all D L).length }, hs3.out.trans (by rw [if_pos (by rw [again_length]; omega)]), rfl, rfl, rfl, rfl⟩
                                have HZ := Lib.hid hz
                                clear hz hQ hv hag hem hno2 hsmj hjr2 hbl hQn
                                go_wp2_with fail
                                go_region_law
                                  ((go_simp; go_at_call 33; (refine (HEM.out _ (by first | exact h | exact h.drew | exact h.drewN _)).mono ?_))
                                   rintro e w5 ⟨rfl, h11⟩)
                                all_goals
                                  go_wp2_with fail
                                  go_ret
                                  obtain ⟨t', e1, e2, e3, e4, e5⟩ := hs4.out
                                  refine BlkPost.bad hS1 e1 (by decide) (by decide) (HD4.out _ _ h11) ⟨?_, ?_, ?_, ?_, rfl⟩
                                  · show t1.all ++ again t1.all D j = t'.all
                                    rw [e2, HZ.out, again_take _ _ hj]
                                  · show R3.kinds = t'.kinds
                                    rw [e3, HR3.out.2.2.1, HT1.out.2.2.2.2.2.2.2.2.1, hL.kinds]
                                  · show R3.stops = t'.stops
                                    rw [e4, HR3.out.2.2.2.1, HT1.out.2.2.2.2.2.2.2.2.2, hL.stops]
                                  · show R3.toks = t'.toks
                                    rw [e5, HR3.out.2.2.2.2.1, HT1.out.2.2.2.2.2.2.2.1, hL.toks]
                              · have hem : ∀ W, RefS wb c W b0 g { R3 with Ao := some ad, no := no, co := co, out := t1.all ++ again t1.all D j } → Calls Try.prog 33 #[.pointer (some ⟨g, 0, none⟩), .int .u8 v] W (EmPost wb c b0 g { R3 with Ao := some ad, no := no, co := co, out := t1.all ++ again t1.all D j } v) := fun W hW => remit_ok hW v (by show (((t1.all ++ again t1.all D j).length : Nat) : Int) < R3.most; rw [HR3.out.2.1, HMO.out, List.length_append, again_length]; omega) (by show (t1.all ++ again t1.all D j).length ≤ _; rw [List.length_append, again_length]; omega)
                                have HEM := Lib.hid hem
                                have HZ := Lib.hid hz
                                clear hz hQ hv hag hem hno2 hsmj hjr2 hbl hQn
                                go_wp2_with fail
                                go_region_law
                                  ((go_simp; go_at_call 33; (refine (HEM.out _ (by first | exact h | exact h.drew | exact h.drewN _)).mono ?_))
                                   rintro e w5 ⟨A8, n8, c8, rfl, h11⟩)
                                all_goals
                                  go_wp2_with fail
                                  go_roundg (gk - 1)
                                  case measure => have := hkj.out; omega
                                  case rel => exact ⟨j + 1, A8, n8, c8, by omega, by show _ ≤ _; have := hjr.out; have := HZ.out; omega, by show gk - 1 = _; have := hkj.out; omega, by go_num, by rw [hag2.out, ← List.append_assoc]; exact h11⟩
                            · obtain rfl : j = L := by omega
                              have hs4 : Hid (∃ t' : IS, t1.step = (t', 0) ∧ t'.x = (t1.x.drop n2).drop D2 ∧ t'.all = t1.all ++ again t1.all D j ∧ t'.rem = t1.rem - j ∧ t'.kinds = t1.kinds ∧ t'.stops = t1.stops ∧ t'.toks = t1.toks ++ [Tok.mk 0 j D] ∧ t'.st = 6 ∧ t'.lt = t1.lt ∧ t'.ds = t1.ds) := ⟨{ t1 with x := (t1.x.drop n2).drop D2, st := 6, len := j, toks := t1.toks ++ [Tok.mk 0 j D], all := t1.all ++ (again t1.all D j).take t1.rem, rem := t1.rem - (again t1.all D j).length }, hs3.out.trans (by rw [if_neg (by rw [again_length]; have := hjr.out; show ¬ t1.rem < j; omega)]), rfl, by show t1.all ++ (again t1.all D j).take t1.rem = _; rw [List.take_of_length_le (by rw [again_length]; exact hjr.out)], by show t1.rem - (again t1.all D j).length = _; rw [again_length], rfl, rfl, rfl, rfl, rfl, rfl⟩
                              obtain ⟨t', e1, e2, e3, e4, e5, e6, e7, e8, e9, e10⟩ := hs4.out
                              have hO2 := hO1.step (.inl (by rw [e1]))
                              have hS2 := IS.Steps.tail hS1 (by rw [e1])
                              have hm3 := IS.mu_step (s := t1) (by rw [e1])
                              rw [e1] at hO2 hS2 hm3
                              have hm4 : Hid (t'.mu < t.mu) := by have a1 := hm2.out; have a2 : t'.mu < t1.mu := hm3; show _ < _; omega
                              have hfin : Hid (∀ W, RefS wb c W b0 g { R3 with Ao := Ao, no := no, co := co, out := t1.all ++ again t1.all D j } → TokR wb c b0 g R0 s t'.mu W) := fun W hW => by
                                have a1 := HR3.out
                                refine ⟨_, t', hW, hS2, ⟨?_, ?_, e3.symm, ?_, ?_, ?_, ?_, ?_, ?_, ?_, ?_, ?_, ?_⟩, hO2, e8, ⟨?_, ?_, ?_, ?_, ⟨?_, ?_, ?_, ?_⟩⟩, rfl, ?_, ?_⟩
                                · show R3.X.drop R3.at_ = t'.x
                                  rw [a1.2.2.2.2.2.2.1, a1.2.2.2.2.2.1, e2]; exact hx4.out
                                · show R3.at_ ≤ R3.X.length
                                  rw [a1.2.2.2.2.2.2.1, a1.2.2.2.2.2.1]; exact hat6.out
                                · show R3.kinds = t'.kinds
                                  rw [e5, a1.2.2.1, HT1.out.2.2.2.2.2.2.2.2.1, hL.kinds]
                                · show R3.stops = t'.stops
                                  rw [e6, a1.2.2.2.1, HT1.out.2.2.2.2.2.2.2.2.2, hL.stops]
                                · show R3.toks = t'.toks
                                  rw [e7, a1.2.2.2.2.1, HT1.out.2.2.2.2.2.2.2.1, hL.toks]
                                · show R3.most = _
                                  rw [a1.2.1, HMO.out, e3, e4, List.length_append, again_length]
                                  have := hjr.out
                                  omega
                                · show R3.E = 0
                                  rw [a1.2.2.2.2.2.2.2.1]; exact hL.E
                                · show Bit R3.X
                                  rw [a1.2.2.2.2.2.2.1]; exact hL.bit
                                · show R3.X.length ≤ _
                                  rw [a1.2.2.2.2.2.2.1]; exact hL.len
                                · show R3.X.length % 8 = 0
                                  rw [a1.2.2.2.2.2.2.1]; exact hL.even
                                · rw [e3, e4, List.length_append, again_length]
                                  have := hjr.out; have := HSM.out
                                  omega
                                · show R3.toks.length ≤ R3.at_
                                  rw [a1.2.2.2.2.1, a1.2.2.2.2.2.1, List.length_append]
                                  have := hL.tk; have := HN1.out
                                  simp; omega
                                · exact a1.2.2.2.2.2.2.2.2.1.trans hT.Al
                                · exact a1.2.2.2.2.2.2.2.2.2.1.trans hT.Ad
                                · exact a1.2.2.2.2.2.2.2.2.2.2.1.trans hT.Alc
                                · exact a1.2.2.2.2.2.2.2.2.2.2.2.trans hT.Adc
                                · exact a1.2.2.2.2.2.2.1.trans hT.keep.X
                                · exact a1.2.2.1.trans hT.keep.kinds
                                · exact a1.2.2.2.1.trans hT.keep.stops
                                · show R0.at_ ≤ R3.at_
                                  rw [a1.2.2.2.2.2.1]
                                  have := hT.keep.le
                                  omega
                                · show t'.lt = s.lt
                                  rw [e9, HT1.out.2.2.1]; exact hlt.out
                                · show t'.ds = s.ds
                                  rw [e10, HT1.out.2.1]; exact hds.out
                              clear e1 e2 e3 e4 e5 e6 e7 e8 e9 e10 hO2 hS2 hm3
                              go_wp2_with fail
                              go_roundg t'.mu
                              case measure => have := hk.out; have := hm4.out; omega
                              case rel => exact hfin.out _ h
                · have hsy1 : ∀ W, RefS wb c W b0 g { R1 with at_ := R1.at_ + n + LE } → Calls Try.prog 35 #[.pointer (some ⟨g, 0, none⟩), .slice Ad nd cd, .slice (some ⟨g2, 0, none⟩) nd nd] W fun e w' => e = .returned (.tuple #[.int .i64 0, .bool false]) ∧ RefS wb c w' b0 g { R1 with at_ := R1.at_ + n + LE, E := E2 } := fun W hW => by
                    refine (HSY2.out W hW).mono ?_
                    rintro e w' (⟨h1, -⟩ | ⟨-, h1, h2⟩)
                    · exact absurd h1 hE0
                    · exact ⟨h1, h2⟩
                  have HSY3 := Lib.hid hsy1
                  have hs3 := Lib.hid (hdk.out.trans (if_pos hE0))
                  have h8 : E2 ≠ 8 := by rcases herr2.out with e | e | e <;> omega
                  have HE0 := Lib.hid hE0
                  have HE8 := Lib.hid h8
                  clear hdk hsym2 herr2 HSY2 hsy1 hE0 h8
                  go_wp2_with fail
                  go_region_law
                    ((go_simp; go_at_call 35; (refine (HSY3.out _ (by first | exact h7 | exact h7.drew | exact h7.drewN _)).mono ?_))
                     rintro e w5 ⟨rfl, h9⟩)
                  all_goals
                    go_wp2_with fail
                    go_ret
                    exact BlkPost.bad hS1 hs3.out HE0.out HE8.out (HD4.out _ _ h9) ⟨by rw [HT1.out.2.2.2.2.2.1]; exact hL.out, by rw [HT1.out.2.2.2.2.2.2.2.2.1]; exact hL.kinds, by rw [HT1.out.2.2.2.2.2.2.2.2.2]; exact hL.stops, by rw [HT1.out.2.2.2.2.2.2.2.1]; exact hL.toks, rfl⟩
    · have hsy1 : ∀ W, RefS wb c W b0 g R1 → Calls Try.prog 35 #[.pointer (some ⟨g, 0, none⟩), .slice Al nl cl, .slice (some ⟨g1, 0, none⟩) nl nl] W fun e w' => e = .returned (.tuple #[.int .i64 0, .bool false]) ∧ RefS wb c w' b0 g { R1 with E := E } := fun W hW => by
        refine (HSY.out W hW).mono ?_
        rintro e w' (⟨h1, -⟩ | ⟨-, h1, h2⟩)
        · exact absurd h1 hE0
        · exact ⟨h1, h2⟩
      have HSY1 := Lib.hid hsy1
      have hs2 := Lib.hid (htk.out.trans (if_pos hE0))
      have h8 : E ≠ 8 := by rcases herr.out with e | e | e <;> omega
      have HE0 := Lib.hid hE0
      have HE8 := Lib.hid h8
      clear htk hsym herr HSY hsy1 hE0 h8 hnpos
      go_wp2_with fail
      go_region_law
        ((go_simp; go_at_call 35; (refine (HSY1.out _ (by first | exact h | exact h.drew | exact h.drewN _)).mono ?_))
         rintro e w5 ⟨rfl, h5⟩)
      all_goals
        go_wp2_with fail
        go_ret
        exact BlkPost.bad hs hs2.out HE0.out HE8.out (HD4.out _ _ h5) ⟨hL.out, hL.kinds, hL.stops, hL.toks, rfl⟩
end
end Go.Proofs.Ytlgkiookobedcaa
