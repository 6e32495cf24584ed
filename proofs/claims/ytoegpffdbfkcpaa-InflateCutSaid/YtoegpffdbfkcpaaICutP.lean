/-
  Plain law: a stream that is cut off lacks bits, and what came out begins what would have come; as much comes out as may.
-/
import Derived.Test.YtoegpffdbfkcpaaInfQ
import Derived.Test.YtoegpffdbfkcpaaInfU
namespace Go.Proofs.Ytoegpffdbfkcpaa
set_option linter.unusedVariables false
section
variable {b : List Int} {M k m : Nat}
theorem start_app (x y : List Int) (M : Nat) : (start x M).app y = start (x ++ y) M := rfl
theorem start_cap (x : List Int) (M m : Nat) : (start x M).cap m = start x m := rfl
/-- a beginning of a whole stream -/
theorem cut_law (h8 : (start (bts b) M).fin.2 = 8) (hk : k < b.length - (start (bts b) M).fin.1.x.length / 8) :
    (start (bts (b.take k)) M).fin.2 = 5 ∧ ∃ l, (start (bts b) M).fin.1.all = (start (bts (b.take k)) M).fin.1.all ++ l := by
  obtain ⟨t, hs, ht⟩ := IS.fin_steps (start (bts (b.take k)) M)
  have hy : (bts (b.drop k)).length % 8 = 0 := by rw [bts_length]; omega
  have hs' := hs.app hy
  have e : (start (bts (b.take k)) M).app (bts (b.drop k)) = start (bts b) M := by rw [start_app, ← bts_append, List.take_append_drop]
  rw [e] at hs'
  have hf := hs'.fin_eq
  by_cases h5 : t.step.2 = 5
  · rw [← ht]
    refine ⟨h5, ?_⟩
    rw [IS.step_lack h5, ← hf]
    obtain ⟨l, h1, h2⟩ := IS.fin_out (t.app (bts (b.drop k)))
    exact ⟨l, h1⟩
  · exfalso
    have h0 : t.step.2 ≠ 0 := by rw [ht]; exact IS.fin_ne _
    have hst := IS.step_app h5 hy
    have hf2 := IS.fin_stop (s := t.app (bts (b.drop k))) (by rw [hst]; exact h0)
    rw [hf, hst] at hf2
    rw [hf2] at hk
    have hk : k < b.length - (t.step.1.x ++ bts (b.drop k)).length / 8 := hk
    rw [List.length_append, bts_length, List.length_drop] at hk
    omega
theorem IS.Steps.mu_le {s t : IS} (h : IS.Steps s t) : t.mu ≤ s.mu := by
  induction h with
  | refl => exact Nat.le_refl _
  | tail _ h2 ih => exact Nat.le_trans (Nat.le_of_lt (IS.mu_step h2)) ih
/-- a whole stream has at least one byte -/
theorem rest_pos (h8 : (start (bts b) M).fin.2 = 8) : 1 ≤ b.length - (start (bts b) M).fin.1.x.length / 8 := by
  obtain ⟨t, hs, ht⟩ := IS.fin_steps (start (bts b) M)
  have h8' : t.step.2 = 8 := by rw [ht]; exact h8
  obtain ⟨h1, g0, g1, g2, g3, g4, g5, g6, g7⟩ := IS.step_done h8'
  rw [← ht, h1]
  have hm : t.mu < (start (bts b) M).mu := by
    cases hs with
    | refl => exact absurd rfl g0
    | tail ha hb => exact Nat.lt_of_lt_of_le (IS.mu_step hb) ha.mu_le
  have e1 : t.mu = 3 * t.x.length := by unfold IS.mu; rw [if_neg g4, if_neg (by omega)]; rfl
  have e2 : (start (bts b) M).mu = 3 * (bts b).length := rfl
  rw [e1, e2, bts_length] at hm
  omega
/-- what a whole stream lets out under another bound -/
theorem caps_law (h8 : (start (bts b) M).fin.2 = 8) :
    (m < (start (bts b) M).fin.1.all.length → (start (bts b) m).fin.2 = 6 ∧ (start (bts b) m).fin.1.all = (start (bts b) M).fin.1.all.take m) ∧
    (m = (start (bts b) M).fin.1.all.length → (start (bts b) m).fin.2 = 8 ∧ (start (bts b) m).fin.1.all = (start (bts b) M).fin.1.all) := by
  obtain ⟨t, hs, ht⟩ := IS.fin_steps (start (bts b) M)
  have h8' : t.step.2 = 8 := by rw [ht]; exact h8
  obtain ⟨h1, g0, g1, g2, g3, g4, g5, g6, g7⟩ := IS.step_done h8'
  obtain ⟨l, h2, h3⟩ := hs.out
  have h2 : t.all = [] ++ l := h2
  rw [← ht, h1, h2, List.nil_append]
  refine ⟨fun hm => ?_, fun hm => ?_⟩
  · have := (hs.cap l h2 m).2 hm
    rw [start_cap] at this
    exact this
  · have hc := (hs.cap l h2 m).1 (by omega)
    rw [start_cap] at hc
    rw [← hc.fin_eq]
    have hst : (t.cap (m - l.length)).step = (t.cap (m - l.length), 8) := by
      unfold IS.step IS.cap
      simp only [if_neg g0, if_neg g1, if_neg g2, if_neg g3, if_neg g4, if_neg g5, if_neg g6, if_neg g7]
    rw [IS.fin_stop (by rw [hst]; simp), hst]
    exact ⟨rfl, h2⟩
end
end Go.Proofs.Ytoegpffdbfkcpaa
