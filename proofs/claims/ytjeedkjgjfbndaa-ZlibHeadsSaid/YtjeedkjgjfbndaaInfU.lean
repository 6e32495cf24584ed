/-
  The walks of the decoder's Rest and Whole.
-/
import Derived.Test.YtjeedkjgjfbndaaInfT
import Derived.Deep.DeepMust
namespace Go.Proofs.Ytjeedkjgjfbndaa
open Go.RowKit
set_option linter.unusedVariables false
section
variable {w w' w0 w2 : World} {b0 g : Nat} {c c0 : Nat → Nat} {M M' : DM} {S S' : DS} {s t t' : IS} {b : List Int} {v : Int}
/-- where bits lack nothing turns -/
theorem IS.step_lack (h : s.step.2 = 5) : s.step.1 = s := by
  unfold IS.step at h ⊢
  have hem : ∀ (s : IS) b, (s.emit b).2 ≠ 5 := fun s b => by unfold IS.emit; simp only; split <;> decide
  by_cases h0 : s.st = 0
  · rw [if_pos h0] at h ⊢; unfold IS.block at h ⊢; revert h; repeat' split
    all_goals simp
  rw [if_neg h0] at h ⊢
  by_cases h1 : s.st = 1
  · rw [if_pos h1] at h ⊢; unfold IS.size at h ⊢; revert h; repeat' split
    all_goals simp
  rw [if_neg h1] at h ⊢
  by_cases h2 : s.st = 2
  · rw [if_pos h2] at h ⊢; unfold IS.stored at h ⊢; revert h; repeat' split
    · simp
    · simp
    · intro h; exact absurd h (hem _ _)
  rw [if_neg h2] at h ⊢
  by_cases h3 : s.st = 3
  · rw [if_pos h3] at h ⊢; unfold IS.sizes at h ⊢; revert h; repeat' split
    all_goals simp
  rw [if_neg h3] at h ⊢
  by_cases h4 : s.st = 4
  · rw [if_pos h4] at h ⊢; unfold IS.heads at h ⊢; revert h; repeat' split
    all_goals simp
  rw [if_neg h4] at h ⊢
  by_cases h5 : s.st = 5
  · rw [if_pos h5] at h ⊢; unfold IS.lengths IS.length IS.repeat_ at h ⊢
    revert h; repeat' split
    all_goals simp
  rw [if_neg h5] at h ⊢
  by_cases h6 : s.st = 6
  · rw [if_pos h6] at h ⊢; unfold IS.token at h ⊢
    revert h; repeat' split
    all_goals first
      | (intro h; exact absurd h (hem _ _))
      | simp
  rw [if_neg h6] at h ⊢
  by_cases h7 : s.st = 7
  · rw [if_pos h7] at h ⊢; unfold IS.dist IS.text at h ⊢
    revert h; repeat' split
    all_goals first
      | (intro h; exact absurd h (hem _ _))
      | simp
  rw [if_neg h7] at h ⊢
/-- blocks turn that are nobody's -/
theorem InfM.aside {F : Nat → Prop} (h : InfM w b0 g c M S) (hc : Chg w w' F) (hF : ∀ k, F k → c k = 0) : InfM w' b0 g c M S :=
  ⟨hc.ar h.cell (fun e => by have := hF g e; have := h.cg; omega), h.cg, h.rdr.chg hc (fun k hk e => by have := hF k e; have := h.cr k hk; omega), h.cr, h.win.chg hc (fun k hk e => by have := hF k e; have := h.cw k hk; omega), h.cw,
    hc.ownI h.out (fun k hk e => by have := hF k e; have := h.co k hk; omega), h.co, hc.ownI h.lens (fun k hk e => by have := hF k e; have := h.cl k hk; omega), h.cl,
    fun l hl => (h.th l hl).chg hc (fun k hk e => by have := hF k hk; omega) (fun _ _ => rfl), fun l hl => (h.tl l hl).chg hc (fun k hk e => by have := hF k hk; omega) (fun _ _ => rfl), fun l hl => (h.td l hl).chg hc (fun k hk e => by have := hF k hk; omega) (fun _ _ => rfl),
    fun k hk => ⟨(h.cb k hk).1, Nat.lt_of_lt_of_le (h.cb k hk).2 hc.size⟩, h.bB⟩
theorem drest_other (h : InfS w0 c0 w b0 g M S) (he : S.err ≠ 8) :
    Calls Try.prog 18 #[.pointer (some ⟨g, 0, none⟩)] w fun e w' => e = .returned (.slice none 0 0) ∧ w = w' := by
  obtain ⟨-, -, -, -, k4, -⟩ := h.cells
  have hef : (S.err == 8) = false := by simpa using he
  go_enter Try.func18, Try.ntmps18
  go_wp2_with fail
  go_ret
  exact ⟨rfl, rfl⟩
def RestPost (w w0 : World) (c0 : Nat → Nat) (b0 g : Nat) (M : DM) (S : DS) (e : Ending) (w' : World) : Prop :=
  ∃ A k cp, e = .returned (.slice A k cp) ∧ OwnI .u8 w' w.heap.size 5 A k cp (M.B.drop (M.a / 8)) ∧ ∃ c, InfM w' b0 g c { M with a := 8 * M.B.length } S ∧ DE b0 w0 c0 w' c ∧ ∀ q, blkOf A = some q → c q = 0
set_option maxHeartbeats 2000000 in
theorem drest_done (h : InfS w0 c0 w b0 g M S) (he : S.err = 8) (hev : M.a % 8 = 0) :
    Calls Try.prog 18 #[.pointer (some ⟨g, 0, none⟩)] w (RestPost w w0 c0 b0 g M S) := by
  obtain ⟨k0, -, -, -, k4, -⟩ := h.cells
  rw [he] at k4
  have hn := h.rdr.n_eq
  have hle := h.rdr.le
  have hbig := h.big
  obtain ⟨j, hj⟩ : ∃ j, M.a = 8 * j := ⟨M.a / 8, by omega⟩
  have hleft : ∀ W, InfS w0 c0 W b0 g M S → Calls Try.prog 24 #[.pointer (some ⟨M.gi, 0, none⟩)] W fun e w' => e = .returned (.int .i64 (8 * ((M.B.length - j : Nat) : Int))) ∧ InfS w0 c0 w' b0 g M S ∧ w'.cell? ⟨g, 0, none⟩ = some (.pointer (some ⟨M.gi, 0, none⟩)) ∧ W.heap.size ≤ w'.heap.size := fun W hW => by
    refine (rdrLeft_any W _ _ _ _ _ _ _ hW.rdr (Nat.le_trans hW.big (by omega))).mono ?_
    rintro e w1 ⟨rfl, q, rfl⟩
    refine ⟨by rw [show 8 * M.ni - M.a = 8 * (M.B.length - j) by omega]; simp, hW.drewN q, ?_⟩
    obtain ⟨k, -⟩ := (hW.drewN q).cells
    exact ⟨k, Nat.le_refl _⟩
  have hread := fun W (hW : InfS w0 c0 W b0 g M S) => rdrRead_any W _ _ _ _ _ _ _ hW.rdr (Nat.le_trans hW.big (by omega)) ((M.B.length - j : Nat) : Int) (M.B.length - j) (by rw [hn]; omega)
  have HLEFT := Lib.hid hleft
  have HREAD := Lib.hid hread
  obtain ⟨K, hK⟩ : ∃ K, M.B.length - j = K := ⟨_, rfl⟩
  have hKI : (0 : Int) ≤ K ∧ (K : Int) ≤ 100000000000 := by omega
  have hwK : IntKind.i64.wrap (K : Int) = (K : Int) := IntWalk.i64_in _ (by omega)
  have hfin : Hid ((M.B.drop ((M.a + 7) / 8)).take K = M.B.drop (M.a / 8) ∧ (M.a + 7) / 8 * 8 + 8 * K = 8 * M.B.length) := by
    refine ⟨?_, by omega⟩
    rw [show (M.a + 7) / 8 = M.a / 8 by omega, List.take_of_length_le (by rw [List.length_drop]; omega)]
  rw [hK] at HLEFT HREAD
  clear hleft hread hn hle hj hK he hev
  go_enter Try.func18, Try.ntmps18
  go_wp2_with fail
  go_region_with
    (first
      | (go_at_call 24; (refine (HLEFT.out _ (by first | exact h.drew | exact h)).mono ?_); rintro e w5 ⟨rfl, hh5, hk5, hhs5⟩)
      | (go_at_call 23; (refine (HREAD.out _ (by first | exact hh5 | exact hh5.drew)).mono ?_); rintro e w6 ⟨A6, c6, rfl, ho6, hr6, hc6⟩))
  all_goals
    rw [hfin.out.1] at ho6
    rw [hfin.out.2] at hr6
    have hres : Hid (∃ c, InfM w6 b0 g c { M with a := 8 * M.B.length } S ∧ DE b0 w0 c0 w6 c ∧ ∀ q, blkOf A6 = some q → c q = 0) := by
      obtain ⟨cq, hMq, hDq⟩ := hh5
      have hgi : cq M.gi = 2 := hMq.cr _ (.inl rfl)
      have hMr : InfM w6 b0 g (colour cq w5.heap.size (foot M.Ai M.gi) 2) { M with a := 8 * M.B.length } S := hMq.reader (hc6.more fun k hk => .inl hk) hr6 (fun k hk => .inl hk) hMq.bB
      refine ⟨_, hMr, hDq.step hMq.lo (fun k hk => (hMq.cb k hk).1) (hc6.more fun k hk => by rw [hk, hgi]; decide) (fun k hk => colour_old hk), fun q hq => ?_⟩
      have hlo := (ho6.2.lt hq).1
      by_cases e : colour cq w5.heap.size (foot M.Ai M.gi) 2 q = 0
      · exact e
      · rcases colour_ne e with ⟨h9, _⟩ | ⟨_, h9⟩
        · have hlo : w5.heap.size ≤ q := hlo
          omega
        · have h8 := hMq.cr q h9
          have := (hMq.cb q (by rw [h8]; decide)).2
          have hlo : w5.heap.size ≤ q := hlo
          omega
    go_wp2_with fail
    go_ret
    exact ⟨A6, K, c6, rfl, ho6.more (by show w.heap.size ≤ w5.heap.size; exact hhs5), hres.out⟩
end
end Go.Proofs.Ytjeedkjgjfbndaa
