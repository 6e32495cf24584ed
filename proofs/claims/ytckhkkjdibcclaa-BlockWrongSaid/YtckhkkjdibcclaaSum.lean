/-
  The walks of code.Sum and of the reference's Sum.
-/
import Derived.Test.YtckhkkjdibcclaaProg
import Derived.Test.YtckhkkjdibcclaaBase
import Derived.Test.YtckhkkjdibcclaaCodeP
namespace Go.Proofs.Ytckhkkjdibcclaa
open Go.RowKit
set_option linter.unusedVariables false

theorem sum_step (s v : Nat) (hs : s ≤ 65536000) : wrap64 ((s : Int) + wrap64 (2 ^ (15 - v))) = ((s + p15 v : Nat) : Int) := by
  have h := p15_bd v
  rw [← p15_int, IntWalk.wrap64_in ((p15 v : Nat) : Int) (by omega), IntWalk.wrap64_in _ (by omega)]
  omega

theorem sum_any (A : Option Addr) (n c B : Nat) (l : List Int) (w : World) (hl : RdI .i64 w B A n l) (hn : n ≤ 1000) :
    Calls Try.prog 73 #[.slice A n c] w fun e w' => e = .returned (.int .i64 (sumTo l n)) ∧ w = w' := by
  go_enter Try.func73, Try.ntmps73
  go_wp2
  go_loop [3, 8] (fun s i => ∃ k : Nat, k ≤ n ∧ i = .int .i64 k ∧ s = .int .i64 (sumTo l k)) (fun _ i => n - (intOf i).toNat)
  case atStart => exact ⟨0, Nat.zero_le _, rfl, rfl⟩
  case round =>
    obtain ⟨k, hk, rfl, rfl⟩ := hrel
    have bd := sumTo_bd l k
    by_cases hlt : k < n
    · obtain ⟨a1, rfl, _, hc⟩ := hl.at_ hlt
      by_cases ht : 1 ≤ ix l k ∧ ix l k ≤ 15
      · obtain ⟨v, hv⟩ : ∃ v : Nat, ix l k = (v : Int) := ⟨(ix l k).toNat, by omega⟩
        have hs : sumTo l (k + 1) = sumTo l k + p15 v := by
          show sumTo l k + share (ix l k) = _
          rw [hv, share_yes (by omega) (by omega)]
        have HS := Lib.hid hs
        rw [hv] at hc ht
        have hb1 : (1 : Int) ≤ (v : Int) ∧ (v : Int) ≤ 15 := ht
        have b2 := p15_bd v
        clear hv hs
        go_wp2
        go_round
        case rel => exact ⟨k + 1, by omega, by go_num, by rw [HS.out, sum_step _ _ (by omega)]⟩
        case measure => simp [intOf]; omega
      · have hs : sumTo l (k + 1) = sumTo l k := by
          show sumTo l k + share (ix l k) = _
          rw [share_no ht]; rfl
        have HS := Lib.hid hs
        clear hs
        go_wp2
        all_goals
          go_round
          case rel => exact ⟨k + 1, by omega, by go_num, by rw [HS.out]⟩
          case measure => simp [intOf]; omega
    · obtain rfl : n = k := by omega
      go_wp2
      go_ret
      exact ⟨rfl, rfl⟩

end Go.Proofs.Ytckhkkjdibcclaa
