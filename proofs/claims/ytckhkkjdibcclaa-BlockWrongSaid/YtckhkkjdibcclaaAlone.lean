/-
  The walks of code.alone and of the reference's Ints.
-/
import Derived.Test.YtckhkkjdibcclaaProg
import Derived.Test.YtckhkkjdibcclaaBase
import Derived.Test.YtckhkkjdibcclaaCodeP
namespace Go.Proofs.Ytckhkkjdibcclaa
open Go.RowKit
set_option linter.unusedVariables false

theorem lowTo_step {l : List Int} {k : Nat} (h : lowTo l k = true) (h1 : ix l k ≤ 1) : lowTo l (k + 1) = true := by
  unfold lowTo at *
  simp only [decide_eq_true_eq] at *
  intro i hi
  by_cases e : i = k
  · subst e; exact h1
  · exact h i (by omega)
theorem aloneB_no {l : List Int} {n k : Nat} (hk : k < n) (h : 1 < ix l k) : aloneB l n = false := by
  unfold aloneB lowTo
  rw [Bool.and_eq_false_iff]
  left
  rw [decide_eq_false_iff_not]
  intro hh
  have := hh k hk
  omega
theorem aloneB_of {l : List Int} {n : Nat} (h : lowTo l n = true) : aloneB l n = decide ((posTo l n : Int) ≤ 1) := by
  unfold aloneB
  rw [h, Bool.true_and]
  congr 1
  simp; omega

theorem alone_any (A : Option Addr) (n c B : Nat) (l : List Int) (w : World) (hl : RdI .i64 w B A n l) (hn : n ≤ 1000) :
    Calls Try.prog 74 #[.slice A n c] w fun e w' => e = .returned (.bool (aloneB l n)) ∧ w = w' := by
  go_enter Try.func74, Try.ntmps74
  go_wp2
  go_loop [3, 8] (fun s i => ∃ k : Nat, k ≤ n ∧ i = .int .i64 k ∧ s = .int .i64 (posTo l k) ∧ Hid (lowTo l k = true)) (fun _ i => n - (intOf i).toNat)
  case atStart => exact ⟨0, Nat.zero_le _, rfl, rfl, by simp [Hid, lowTo]⟩
  case round =>
    obtain ⟨k, hk, rfl, rfl, hlow⟩ := hrel
    have bd := posTo_le l k
    by_cases hlt : k < n
    · obtain ⟨a1, rfl, _, hc⟩ := hl.at_ hlt
      by_cases h0 : 0 < ix l k
      · have HS := Lib.hid (show posTo l (k + 1) = posTo l k + 1 by simp [posTo, h0])
        by_cases h1 : 1 < ix l k
        · have HN := Lib.hid (aloneB_no hlt h1)
          go_wp2
          go_ret
          exact ⟨ret_bool HN.out.symm, rfl⟩
        · go_wp2
          go_round
          case rel => exact ⟨k + 1, by omega, by go_num, by rw [HS.out]; go_num, lowTo_step hlow.out (by omega)⟩
          case measure => simp [intOf]; omega
      · have HS := Lib.hid (show posTo l (k + 1) = posTo l k by simp [posTo, h0])
        go_wp2
        go_round
        case rel => exact ⟨k + 1, by omega, by go_num, by rw [HS.out], lowTo_step hlow.out (by omega)⟩
        case measure => simp [intOf]; omega
    · obtain rfl : n = k := by omega
      go_wp2
      go_ret
      exact ⟨ret_bool (aloneB_of hlow.out).symm, rfl⟩
end Go.Proofs.Ytckhkkjdibcclaa
