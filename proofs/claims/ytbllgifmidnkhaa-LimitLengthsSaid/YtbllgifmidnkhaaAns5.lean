/-
  The walk of the statements' own answers, layer 05.
-/
import Derived.Test.YtbllgifmidnkhaaLimR
namespace Go.Proofs.Ytbllgifmidnkhaa
open Go.RowKit
set_option linter.unusedVariables false
set_option maxRecDepth 100000 in
set_option maxHeartbeats 1600000 in
theorem answers5_any (w : World) : Calls Try.prog 7 #[] w fun e w' => e = .returned (.bool true) ∧ Below w.heap.size w w' := by
  have hmv : mayV [1, 1, 2] 15 = 0 := by decide +kernel
  go_enter Try.func7, Try.ntmps7
  go_wp2_with fail
  have hr0 := RdI.lit .i64 w [1, 1, 2] 3
  have hz0 : (w.alloc (.cells ([1, 1, 2].map (Value.int .i64)).toArray 3)).heap.size = w.heap.size + 1 := by simp
  rw [← hz0] at hr0
  refine (lengths_any _ _ _ _ [1, 1, 2] hr0 15 (by decide)).mono ?_
  rintro e w1 ⟨A, c, L, rfl, hb, ho, -, hR⟩
  obtain ⟨hl, hx0, hx2⟩ := ans05_plain (hR hmv)
  rw [hmv, hl]
  rw [hl] at ho
  have hb1 : Below w.heap.size w w1 := ((Below.refl _ w).alloc (Nat.le_refl _) _).trans (hb.mono (by simp))
  obtain ⟨a0, rfl, _, hc0⟩ := ho.rd.at_ (i := 0) (by omega)
  rw [hx0] at hc0
  have hc0' := hc0
  rw [show a0.add 0 = a0 from by cases a0; simp [Addr.add]] at hc0'
  obtain ⟨a2, ha2, _, hc2⟩ := ho.rd.at_ (i := 2) (by omega)
  rw [hx2] at hc2
  cases ha2
  have hc2' := hc2
  simp [Addr.add] at hc2'
  have hg1 : (0 : Int) < (3 : Nat) ∧ (2 : Int) < (3 : Nat) ∧ 0 < 3 ∧ 2 < 3 := by decide
  clear hr0 hz0 hmv hR ho hb
  go_wp2_with fail
  trace_state
  go_ret
  exact ⟨rfl, hb1⟩
end Go.Proofs.Ytbllgifmidnkhaa
