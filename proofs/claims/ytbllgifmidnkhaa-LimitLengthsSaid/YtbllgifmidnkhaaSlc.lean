/-
  Words for memory, over any program: slicing a slice, whatever its place.
-/
import Derived.Test.YtbllgifmidnkhaaChg
namespace Go.Proofs.Ytbllgifmidnkhaa
open Go.RowKit
set_option linter.unusedVariables false
/-- where s[j:] of a slice of one-cell elements lies -/
def cutA (A : Option Addr) (c j : Nat) : Option Addr := if c = j then A else A.map (·.add j)
theorem RdI.cutA {k : IntKind} {w : World} {B n c : Nat} {A : Option Addr} {l : List Int} (h : RdI k w B A n l) {j : Nat} (hj : j ≤ n) (hc : n ≤ c) : RdI k w B (cutA A c j) (n - j) (l.drop j) :=
  h.cut hj fun hlt => by unfold Go.Proofs.Ytbllgifmidnkhaa.cutA; rw [if_neg (by omega)]
theorem RdI.pre {k : IntKind} {w : World} {B n : Nat} {A : Option Addr} {l : List Int} (h : RdI k w B A n l) {j : Nat} (hj : j ≤ n) : RdI k w B A j (l.take j) := by
  refine ⟨by rw [List.length_take, ← h.1]; omega, fun h0 => ?_⟩
  obtain ⟨ad, e, hb, hc⟩ := h.2 (by omega)
  refine ⟨ad, e, hb, fun i hi => ?_⟩
  rw [hc i (by omega)]
  simp [ix, hi]
section
variable {P : Program} (t e : TypeId) (ht : P.underlying t = some (.slice e)) {i : TypeInfo} (hi : P.info? e = some i) (hs : i.size = 1)
include ht hi hs
theorem run_slice_from (A : Option Addr) (n c : Nat) {j : Nat} (hj : j ≤ n) (W : World) :
    (Instr.slice t (.slice A n c) (some (.int .i64 (j : Int))) none none).run P W = .ok (.slice (cutA A c j) (n - j) (c - j)) W := by
  have he : P.elem t = e := by simp [Program.elem, ht]
  rw [run_slice_l W t A n c (by rw [he]; exact ht) .i64 j (by omega) (by omega), he]
  simp [sizeOf, typeInfo, hi, hs, sliced, cutA]
theorem run_slice_to (A : Option Addr) (n c : Nat) {j : Nat} (hj : j ≤ c) (W : World) :
    (Instr.slice t (.slice A n c) none (some (.int .i64 (j : Int))) none).run P W = .ok (.slice A j c) W := by
  have he : P.elem t = e := by simp [Program.elem, ht]
  rw [run_slice_h W t A n c (by rw [he]; exact ht) .i64 j (by omega) (by omega), he]
  simp [sizeOf, typeInfo, hi, hs, sliced]
  cases A <;> simp [Addr.add]
theorem run_slice_mid (A : Option Addr) (n c : Nat) {a b : Nat} (hab : a ≤ b) (hj : b ≤ c) (W : World) :
    (Instr.slice t (.slice A n c) (some (.int .i64 (a : Int))) (some (.int .i64 (b : Int))) none).run P W = .ok (.slice (cutA A c a) (b - a) (c - a)) W := by
  have he : P.elem t = e := by simp [Program.elem, ht]
  rw [run_slice_lh W t A n c (by rw [he]; exact ht) .i64 .i64 a b (by omega) (by omega) (by omega), he]
  simp [sizeOf, typeInfo, hi, hs, sliced, cutA]
end
end Go.Proofs.Ytbllgifmidnkhaa
