/-
  The walk of code.Check.
-/
import Derived.Test.YtckhkkjdibcclaaProg
import Derived.Test.YtckhkkjdibcclaaBase
import Derived.Test.YtckhkkjdibcclaaCodeP
import Derived.Test.YtckhkkjdibcclaaSum
import Derived.Test.YtckhkkjdibcclaaAlone
namespace Go.Proofs.Ytckhkkjdibcclaa
open Go.RowKit
set_option linter.unusedVariables false

theorem checkOf_arg {l : List Int} {most : Int} (h : most < 1 ∨ 15 < most ∨ 288 < l.length) : checkOf l most = 1 := by unfold checkOf; rw [if_pos h]
theorem checkOf_in {l : List Int} {most : Int} {k : Nat} (hk : k < l.length) (h : ¬ (0 ≤ ix l k ∧ ix l k ≤ most)) : checkOf l most = 1 := by
  unfold checkOf
  by_cases h0 : most < 1 ∨ 15 < most ∨ 288 < l.length
  · rw [if_pos h0]
  · rw [if_neg h0, if_pos (inTo_not hk h)]
theorem checkOf_code {l : List Int} {most : Int} (h0 : ¬ (most < 1 ∨ 15 < most ∨ 288 < l.length)) (h1 : ∀ i, i < l.length → 0 ≤ ix l i ∧ ix l i ≤ most)
    (h : 32768 < sumTo l l.length ∨ (sumTo l l.length < 32768 ∧ aloneB l l.length = false)) : checkOf l most = 3 := by
  unfold checkOf
  rw [if_neg h0, if_neg (by rw [inTo_of h1]; simp), if_pos h]
theorem checkOf_ok {l : List Int} {most : Int} (h0 : ¬ (most < 1 ∨ 15 < most ∨ 288 < l.length)) (h1 : ∀ i, i < l.length → 0 ≤ ix l i ∧ ix l i ≤ most)
    (h : ¬ (32768 < sumTo l l.length ∨ (sumTo l l.length < 32768 ∧ aloneB l l.length = false))) : checkOf l most = 0 := by
  unfold checkOf
  rw [if_neg h0, if_neg (by rw [inTo_of h1]; simp), if_neg h]

set_option maxRecDepth 100000 in
set_option maxHeartbeats 1000000 in
theorem check_any (A : Option Addr) (n c B : Nat) (l : List Int) (most : Int) (w : World) (hl : RdI .i64 w B A n l) (hn : n ≤ 1000) :
    Calls Try.prog 66 #[.slice A n c, .int .i64 most] w fun e w' => e = .returned (.int .i64 (checkOf l most)) ∧ w = w' := by
  have hln := Lib.hid hl.1
  by_cases h0 : most < 1 ∨ 15 < most ∨ 288 < n
  · have HC := Lib.hid (checkOf_arg (l := l) (most := most) (by rw [← hln.out]; exact h0))
    by_cases h1 : most < 1
    · clear h0
      go_enter Try.func66, Try.ntmps66
      go_wp2
      go_ret
      exact ⟨ret_int HC.out.symm, rfl⟩
    · by_cases h2 : 15 < most
      · clear h0
        go_enter Try.func66, Try.ntmps66
        go_wp2
        go_ret
        exact ⟨ret_int HC.out.symm, rfl⟩
      · have h3 : 288 < n := by omega
        clear h0
        go_enter Try.func66, Try.ntmps66
        go_wp2
        go_ret
        exact ⟨ret_int HC.out.symm, rfl⟩
  · have H0 := Lib.hid (show ¬ (most < 1 ∨ 15 < most ∨ 288 < l.length) by rw [← hln.out]; exact h0)
    have hm : 1 ≤ most ∧ most ≤ 15 := by omega
    have hn2 : n ≤ 288 := by omega
    clear h0
    go_enter Try.func66, Try.ntmps66
    go_wp2
    go_loop [21] (fun i => ∃ k : Nat, k ≤ n ∧ i = .int .i64 k ∧ Hid (∀ j, j < k → 0 ≤ ix l j ∧ ix l j ≤ most)) (fun i => n - (intOf i).toNat)
    case atStart => exact ⟨0, Nat.zero_le _, rfl, fun j hj => absurd hj (by omega)⟩
    case round =>
      obtain ⟨k, hk, rfl, hin⟩ := hrel
      by_cases hlt : k < n
      · obtain ⟨a1, rfl, _, hc⟩ := hl.at_ hlt
        by_cases ht : 0 ≤ ix l k ∧ ix l k ≤ most
        · go_wp2
          go_round
          case rel =>
            refine ⟨k + 1, by omega, by go_num, fun j hj => ?_⟩
            by_cases e : j = k
            · subst e; exact ht
            · exact hin.out j (by omega)
          case measure => simp [intOf]; omega
        · have HC := Lib.hid (checkOf_in (most := most) (show k < l.length by rw [← hln.out]; exact hlt) ht)
          by_cases h1 : ix l k < 0
          · go_wp2
            go_ret
            exact ⟨ret_int HC.out.symm, rfl⟩
          · have h2 : most < ix l k := by omega
            go_wp2
            go_ret
            exact ⟨ret_int HC.out.symm, rfl⟩
      · obtain rfl : n = k := by omega
        have hin' := Lib.hid (show ∀ j, j < l.length → 0 ≤ ix l j ∧ ix l j ≤ most by rw [← hln.out]; exact hin.out)
        obtain ⟨S, hS⟩ : ∃ S : Int, ((sumTo l n : Nat) : Int) = S := ⟨_, rfl⟩
        have b1 : (0 : Int) ≤ S ∧ S ≤ 32768 * (n : Int) := by have := sumTo_bd l n; omega
        have HS := Lib.hid hS
        clear hS
        by_cases hs : (32768 : Int) < S
        · have HC := Lib.hid (checkOf_code H0.out hin'.out (.inl (by rw [← hln.out]; have := HS.out; omega)))
          go_wp2_with (first | (go_at_call 73; refine (sum_any _ _ _ _ _ _ hl hn).mono ?_; rintro e w' ⟨rfl, rfl⟩; rw [HS.out]) | (go_at_call 74; refine (alone_any _ _ _ _ _ _ hl hn).mono ?_; rintro e w' ⟨rfl, rfl⟩))
          go_ret
          exact ⟨ret_int HC.out.symm, rfl⟩
        · have hd1 : decide ((32768 : Int) < S) = false := by simpa using hs
          by_cases hs2 : S < 32768
          · cases hal : aloneB l n
            · have HC := Lib.hid (checkOf_code H0.out hin'.out (.inr (by rw [← hln.out]; exact ⟨by have := HS.out; omega, hal⟩)))
              have HA := Lib.hid hal
              clear hal
              go_wp2_with (first | (go_at_call 73; refine (sum_any _ _ _ _ _ _ hl hn).mono ?_; rintro e w' ⟨rfl, rfl⟩; rw [HS.out]) | (go_at_call 74; refine (alone_any _ _ _ _ _ _ hl hn).mono ?_; rintro e w' ⟨rfl, rfl⟩; rw [HA.out]))
              go_ret
              exact ⟨ret_int HC.out.symm, rfl⟩
            · have HC := Lib.hid (checkOf_ok H0.out hin'.out (by rw [← hln.out, hal]; have := HS.out; simp; omega))
              have HA := Lib.hid hal
              clear hal
              go_wp2_with (first | (go_at_call 73; refine (sum_any _ _ _ _ _ _ hl hn).mono ?_; rintro e w' ⟨rfl, rfl⟩; rw [HS.out]) | (go_at_call 74; refine (alone_any _ _ _ _ _ _ hl hn).mono ?_; rintro e w' ⟨rfl, rfl⟩; rw [HA.out]))
              go_ret
              exact ⟨ret_int HC.out.symm, rfl⟩
          · have HC := Lib.hid (checkOf_ok H0.out hin'.out (by rw [← hln.out]; have := HS.out; omega))
            go_wp2_with (first | (go_at_call 73; refine (sum_any _ _ _ _ _ _ hl hn).mono ?_; rintro e w' ⟨rfl, rfl⟩; rw [HS.out]) | (go_at_call 74; refine (alone_any _ _ _ _ _ _ hl hn).mono ?_; rintro e w' ⟨rfl, rfl⟩))
            go_ret
            exact ⟨ret_int HC.out.symm, rfl⟩
end Go.Proofs.Ytckhkkjdibcclaa
