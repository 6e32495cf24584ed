/-
  The walks of code.Cost and of the reference's Cost.
-/
import Derived.Test.YtbllgifmidnkhaaProg
import Derived.Test.YtbllgifmidnkhaaBase
import Derived.Test.YtbllgifmidnkhaaCostP
namespace Go.Proofs.Ytbllgifmidnkhaa
open Go.RowKit
set_option linter.unusedVariables false

set_option maxHeartbeats 400000 in
theorem cost_any (A C : Option Addr) (n m c d : Nat) (l f : List Int) (w : World) (B : Nat) (hl : RdI .i64 w B A n l) (hf : RdI .i64 w B C m f) (hn : n ≤ 1000) (hm : m ≤ 1000) :
    Calls Try.prog 14 #[.slice A n c, .slice C m d] w fun e w' => e = .returned (.int .i64 (costTo l f (min n m))) ∧ ∃ q, w' = w.drewN q := by
  go_enter Try.func14, Try.ntmps14
  go_wp2
  all_goals
    go_loopw [5, 14] (fun s i wr => ∃ k : Nat, k ≤ min n m ∧ i = .int .i64 k ∧ s = .int .i64 (costTo l f k) ∧ ∃ q, wr = w.drewN q) (fun _ i _ => min n m - (intOf i).toNat)
    case atStart => exact ⟨0, Nat.zero_le _, rfl, rfl, 0, rfl⟩
    case round =>
      obtain ⟨k, hk, rfl, rfl, q, rfl⟩ := hrel
      by_cases hlt : k < min n m
      · have h1 := hl.at_ (i := k) (by omega)
        have h2 := hf.at_ (i := k) (by omega)
        obtain ⟨a1, rfl, _, hc1⟩ := h1
        obtain ⟨a2, rfl, _, hc2⟩ := h2
        have hkn : k < n := by omega
        have hkm : k < m := by omega
        have hk2 : (k : Int) < ((min n m : Nat) : Int) := by omega
        have bd := costTo_bd l f k (by omega)
        have bp := costOf_bd (ix l k) (ix f k)
        by_cases ht : 0 < ix l k ∧ 0 < ix f k ∧ ix f k ≤ 1048576 ∧ ix l k ≤ 1048576
        · obtain ⟨t1, t2, t3, t4⟩ := ht
          have he := costOf_yes t1 t2 t3 t4
          rw [he] at bp
          have hs : Hid (costTo l f (k + 1) = costTo l f k + ix l k * ix f k) := by show costTo l f k + costOf (ix l k) (ix f k) = _; rw [he]
          clear he
          go_wp2
          go_quiet (fail)
          go_wp2
          go_roundw
          case rel => exact ⟨k + 1, by omega, by go_num, by rw [hs.out], _, rfl⟩
          case measure => simp [intOf]; omega
        · have he := costOf_no ht
          have hs : Hid (costTo l f (k + 1) = costTo l f k) := by show costTo l f k + costOf (ix l k) (ix f k) = _; rw [he]; omega
          clear he
          go_wp2
          go_quiet (fail)
          go_wp2
          all_goals
            go_roundw
            case rel => exact ⟨k + 1, by omega, by go_num, by rw [hs.out], _, rfl⟩
            case measure => simp [intOf]; omega
      · have : k = min n m := by omega
        subst this
        go_wp2
        go_ret
        exact ⟨rfl, _, rfl⟩

set_option maxHeartbeats 800000 in
theorem rcost_any (A C : Option Addr) (n m c d : Nat) (l f : List Int) (w : World) (B : Nat) (hl : RdI .i64 w B A n l) (hf : RdI .i64 w B C m f) (hn : n ≤ 1000) (hm : m ≤ 1000) :
    Calls Try.prog 11 #[.slice A n c, .slice C m d] w fun e w' => e = .returned (.int .i64 (costTo l f (min n m))) ∧ ∃ q, w' = w.drewN q := by
  go_enter Try.func11, Try.ntmps11
  go_wp2
  go_loopw [5, 6] (fun s i wr => ∃ k : Nat, k ≤ min n m ∧ i = .int .i64 k ∧ s = .int .i64 (costTo l f k) ∧ ∃ q, wr = w.drewN q) (fun _ i _ => min n m - (intOf i).toNat)
  case atStart => exact ⟨0, Nat.zero_le _, rfl, rfl, 0, rfl⟩
  case round =>
    obtain ⟨k, hk, rfl, rfl, q, rfl⟩ := hrel
    by_cases hlt : k < min n m
    · have h1 := hl.at_ (i := k) (by omega)
      have h2 := hf.at_ (i := k) (by omega)
      obtain ⟨a1, rfl, _, hc1⟩ := h1
      obtain ⟨a2, rfl, _, hc2⟩ := h2
      have hkn : k < n := by omega
      have hkm : k < m := by omega
      have bd := costTo_bd l f k (by omega)
      have bp := costOf_bd (ix l k) (ix f k)
      by_cases ht : 0 < ix l k ∧ 0 < ix f k ∧ ix f k ≤ 1048576 ∧ ix l k ≤ 1048576
      · obtain ⟨t1, t2, t3, t4⟩ := ht
        have he := costOf_yes t1 t2 t3 t4
        rw [he] at bp
        have hs : Hid (costTo l f (k + 1) = costTo l f k + ix l k * ix f k) := by show costTo l f k + costOf (ix l k) (ix f k) = _; rw [he]
        clear he
        go_wp2
        go_quiet (fail)
        go_wp2
        go_roundw
        case rel => exact ⟨k + 1, by omega, by go_num, by rw [hs.out], _, rfl⟩
        case measure => simp [intOf]; omega
      · have he := costOf_no ht
        have hs : Hid (costTo l f (k + 1) = costTo l f k) := by show costTo l f k + costOf (ix l k) (ix f k) = _; rw [he]; omega
        clear he
        go_wp2
        all_goals
          go_roundw
          case rel => exact ⟨k + 1, by omega, by go_num, by rw [hs.out], _, rfl⟩
          case measure => simp [intOf]; omega
    · have e : k = min n m := by omega
      subst e
      by_cases hnm : n ≤ m
      · have h3 : min n m = n := by omega
        rw [h3] at hlt ⊢
        go_wp2
        go_ret
        exact ⟨ret_int (by rw [h3]), _, rfl⟩
      · have h3 : min n m = m := by omega
        have h4 : m < n := by omega
        rw [h3] at hlt ⊢
        go_wp2
        go_ret
        exact ⟨ret_int (by rw [h3]), _, rfl⟩
end Go.Proofs.Ytbllgifmidnkhaa
