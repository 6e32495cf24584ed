/-
  Plain law: what a window holds.
-/
import Derived.Test.YtckhkkjdibcclaaOwn
namespace Go.Proofs.Ytckhkkjdibcclaa
set_option linter.unusedVariables false

/-- what is kept when bytes are added -/
def addL (l b : List Int) : List Int := if 65536 < (l ++ b).length then (l ++ b).drop ((l ++ b).length - 32768) else l ++ b
theorem addL_le (l b : List Int) : (addL l b).length ≤ 65536 := by
  unfold addL; split
  · simp; omega
  · omega
theorem ix_append' (l l' : List Int) (i : Nat) : ix (l ++ l') i = if i < l.length then ix l i else ix l' (i - l.length) := ix_append l l' i

/-- the last bytes of all that was: at least as many as may be known -/
def Tail (all l : List Int) : Prop := ∃ k, l = all.drop k ∧ k ≤ all.length ∧ (k = 0 ∨ 32768 ≤ all.length - k)
theorem Tail.nil_ : Tail [] [] := ⟨0, rfl, by simp, .inl rfl⟩
theorem Tail.add {all l : List Int} (h : Tail all l) (b : List Int) : Tail (all ++ b) (addL l b) := by
  obtain ⟨k, rfl, hk, hk2⟩ := h
  have e : all.drop k ++ b = (all ++ b).drop k := by rw [List.drop_append_of_le_length hk]
  unfold addL
  rw [e]
  have hl : ((all ++ b).drop k).length = all.length + b.length - k := by simp
  have hl2 : (all ++ b).length = all.length + b.length := by simp
  split
  · rename_i h
    rw [hl] at h
    rw [hl, List.drop_drop]
    exact ⟨k + (all.length + b.length - k - 32768), rfl, by omega, .inr (by omega)⟩
  · exact ⟨k, rfl, by omega, by omega⟩
theorem Tail.len {all l : List Int} (h : Tail all l) : min l.length 32768 = min all.length 32768 := by
  obtain ⟨k, rfl, hk, hk2⟩ := h
  simp; omega
theorem Tail.back {all l : List Int} (h : Tail all l) {d : Nat} (hd : d ≤ l.length) : l.drop (l.length - d) = all.drop (all.length - d) := by
  obtain ⟨k, rfl, hk, hk2⟩ := h
  rw [List.drop_drop, List.length_drop] at *
  congr 1
  omega
end Go.Proofs.Ytckhkkjdibcclaa
