/-
  Words for texts, over any program: a text turned to bytes and back.
-/
import Derived.Test.YtlgkiookobedcaaPk1
import Derived.Laws.IdiomStrings
import Derived.Laws.BytesString
namespace Go.Proofs.Ytlgkiookobedcaa
open Go.RowKit
set_option linter.unusedVariables false
def strOf (l : List Int) : ByteArray := l.foldl (fun r n => r.push (UInt8.ofNat n.toNat)) ByteArray.empty
theorem run_to_string {P : Program} {w : World} (src dst e : TypeId) {g n : Nat} (c : Nat) (l : List Int) (hs : P.underlying src = some (.slice e)) (he : P.underlying e = some (.int .u8)) (hd : P.underlying dst = some .string)
    (h : Ar w g n (fun i => .int .u8 (ix l i))) (hn : n = l.length) : (convert src dst (.slice (some ⟨g, 0, none⟩) n c)).run P w = .ok (.string (strOf l)) w := by
  subst hn
  rw [run_convert_bytes_string w src dst e _ _ c hs he hd]
  refine run_bytesToString w _ _ c l ?_
  have := run_loadCells_list (P := P) w ⟨g, 0, none⟩ (l.map (Value.int .u8)) (fun j v hv => by
    have hj : j < l.length := by
      rcases Nat.lt_or_ge j l.length with h' | h'
      · exact h'
      · rw [List.getElem?_eq_none (by simpa using h')] at hv; cases hv
    have hadd : (⟨g, 0, none⟩ : Addr).add j = ⟨g, j, none⟩ := by unfold Addr.add; split <;> simp_all
    rw [hadd, h.cell hj]
    simp [hj] at hv
    rw [← hv]
    simp [ix, hj])
  simpa using this
end Go.Proofs.Ytlgkiookobedcaa
