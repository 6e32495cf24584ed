/-
  Words for texts, over any program: a text turned to bytes and back.
-/
import Derived.Test.YtlopmioamhendaaGreatBase
import Derived.Laws.IdiomStrings
import Derived.Laws.BytesString
namespace Go.Proofs.YtlopmioamhendaaGreat
open Go.RowKit
set_option linter.unusedVariables false

/-- a text's bytes as numbers -/
def bytesL (s : ByteArray) : List Int := s.data.toList.map fun b => (b.toNat : Int)
/-- numbers as a text -/
def strOf (l : List Int) : ByteArray := l.foldl (fun r n => r.push (UInt8.ofNat n.toNat)) ByteArray.empty
theorem bytesL_length (s : ByteArray) : (bytesL s).length = s.size := by simp [bytesL]
theorem bytesL_bd (s : ByteArray) (i : Nat) : 0 ≤ ix (bytesL s) i ∧ ix (bytesL s) i ≤ 255 := by
  unfold ix bytesL
  rw [List.getD_eq_getElem?_getD, List.getElem?_map]
  cases h : s.data.toList[i]? with
  | none => simp
  | some b => have := b.toNat_lt; simp; omega

/-- '[]byte(s)' -/
theorem run_to_bytes {P : Program} (w : World) (src dst e : TypeId) (s : ByteArray) (hs : P.underlying src = some .string) (hd : P.underlying dst = some (.slice e)) (he : P.underlying e = some (.int .u8)) :
    ∃ (cap : Nat) (R : Array Value) (fr : Nat × Nat), (convert src dst (.string s)).run P w = .ok (.slice (some ⟨w.heap.size, 0, none⟩) s.size cap) (w.drew.alloc (.cells R e fr)) ∧
      Ar (w.drew.alloc (.cells R e fr)) w.heap.size s.size (fun i => .int .u8 (ix (bytesL s) i)) := by
  refine ⟨_, _, _, run_bytes_of_string w src dst e s hs hd he, ⟨_, e, _, heap_alloc_new w.drew _, .inl ?_, ?_, fun i hi => ?_⟩⟩
  · simp [bytesRow]
  · simp [bytesRow]
  · rw [bytesRow_at s _ i hi]
    congr 2
    simp [ix, bytesL, hi]

/-- 'string(b)' -/
theorem run_to_string {P : Program} {w : World} (src dst e : TypeId) {g n : Nat} (c : Nat) (l : List Int) (hs : P.underlying src = some (.slice e)) (he : P.underlying e = some (.int .u8)) (hd : P.underlying dst = some .string)
    (h : Ar w g n (fun i => .int .u8 (ix l i))) (hn : n = l.length) : (convert src dst (.slice (some ⟨g, 0, none⟩) n c)).run P w = .ok (.string (strOf l)) w := by
  subst hn
  rw [run_convert_bytes_string w src dst e _ _ c hs he hd]
  refine run_bytesToString w _ _ c l ?_
  have := run_loadCells_list (P := P) w ⟨g, 0, none⟩ (l.map (Value.int .u8)) (fun j v hv => by
    have hj : j < l.length := by
      rcases Nat.lt_or_ge j l.length with h' | h'
      · exact h'
      · rw [List.getElem?_eq_none (by simpa using h')] at hv; cases hv
    have hadd : (⟨g, 0, none⟩ : Addr).add j = ⟨g, j, none⟩ := by unfold Addr.add; split <;> simp_all
    rw [hadd, h.cell hj]
    simp [hj] at hv
    rw [← hv]
    simp [ix, hj])
  simpa using this
end Go.Proofs.YtlopmioamhendaaGreat
