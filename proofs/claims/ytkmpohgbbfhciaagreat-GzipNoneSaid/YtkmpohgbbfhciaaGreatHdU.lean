/-
  The walk of answers of layer 13.
-/
import Derived.Test.YtkmpohgbbfhciaaGreatHdT
namespace Go.Proofs.YtkmpohgbbfhciaaGreat
open Go.RowKit
set_option linter.unusedVariables false

def hp0 : HP := ⟨false, false, 0, 0, 0, [], false, [], [], false, false⟩
theorem hp0_bd : hp0.bd := ⟨by decide, by decide, by decide, fun x hx => (by cases hx), fun x hx => (by cases hx), fun x hx => (by cases hx)⟩
theorem hp0_p4 : hp0.p4 = [31, 139, 8, 0, 0, 0, 0, 0, 0, 0] := by decide
set_option maxRecDepth 100000 in
theorem answers13_any (w : World) : Calls Tryz.prog 7 #[] w fun e w' => e = .returned (.bool true) ∧ Below w.heap.size w w' := by
  go_enter Tryz.func7, Tryz.ntmps7
  go_wp2_with fail
  refine (print_any w w.heap.size hp0 none 0 0 ⟨rfl, Rd.nil_⟩ (Nat.le_refl _) hp0_bd (by omega) (by simp [hp0]) (by simp [hp0])).mono ?_
  rintro e w2 (⟨_, A, n, c, rfl, ho, hb⟩ | ⟨hf, _⟩)
  · rw [hp0_p4] at ho
    obtain rfl : n = 10 := ho.1
    obtain ⟨g, rfl⟩ := ho.2.addr (by omega)
    have c0 := ho.2.cell (i := 0) (by omega)
    have c0' : w2.cell? ⟨g, 0, none⟩ = some (.int .u8 31) := c0
    clear c0 ho
    go_wp2
    go_ret
    exact ⟨rfl, hb⟩
  · exact absurd hf (by decide)
end Go.Proofs.YtkmpohgbbfhciaaGreat
