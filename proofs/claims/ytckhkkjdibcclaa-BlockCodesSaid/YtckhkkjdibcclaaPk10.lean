/-
  Several texts in one (written by pack2.py): RSum, RCheck.
-/
import Derived.Test.YtckhkkjdibcclaaProg
import Derived.Test.YtckhkkjdibcclaaPk9
import Derived.Test.YtckhkkjdibcclaaPk1
/-
  The walk of the reference's Sum.
-/
namespace Go.Proofs.Ytckhkkjdibcclaa
open Go.RowKit
set_option linter.unusedVariables false
set_option maxHeartbeats 400000 in
theorem rsum_any (A : Option Addr) (n c B : Nat) (l : List Int) (w : World) (hl : RdI .i64 w B A n l) (hn : n ≤ 1000) :
    Calls Try.prog 34 #[.slice A n c] w fun e w' => e = .returned (.int .i64 (sumTo l n)) ∧ w = w' := by
  go_enter Try.func34, Try.ntmps34
  go_wp2
  go_loop [3, 4] (fun s i => ∃ k : Nat, k ≤ n ∧ i = .int .i64 k ∧ s = .int .i64 (sumTo l k)) (fun _ i => n - (intOf i).toNat)
  case atStart => exact ⟨0, Nat.zero_le _, rfl, rfl⟩
  case round =>
    obtain ⟨k, hk, rfl, rfl⟩ := hrel
    have bd := sumTo_bd l k
    by_cases hlt : k < n
    · obtain ⟨a1, rfl, _, hc⟩ := hl.at_ hlt
      by_cases ht : 1 ≤ ix l k ∧ ix l k ≤ 15
      · obtain ⟨v, hv⟩ : ∃ v : Nat, ix l k = (v : Int) := ⟨(ix l k).toNat, by omega⟩
        have hs : sumTo l (k + 1) = sumTo l k + p15 v := by
          show sumTo l k + share (ix l k) = _
          rw [hv, share_yes (by omega) (by omega)]
        have HS := Lib.hid hs
        rw [hv] at hc ht
        have hb1 : (1 : Int) ≤ (v : Int) ∧ (v : Int) ≤ 15 := ht
        clear hv hs
        go_wp2
        go_loop [5, 6] (fun p j => ∃ q : Nat, q ≤ v ∧ j = .int .i64 q ∧ p = .int .i64 (p15 q)) (fun _ j => v - (intOf j).toNat)
        case atStart => exact ⟨0, Nat.zero_le _, rfl, rfl⟩
        case round =>
          obtain ⟨q, hq, rfl, rfl⟩ := hrel
          have b2 := p15_bd q
          by_cases hqv : q < v
          · have hh := Lib.hid (p15_half (v := q) (by omega))
            go_wp2
            go_round
            case rel => exact ⟨q + 1, by omega, by go_num, by rw [hh.out]; congr 1; omega⟩
            case measure => simp [intOf]; omega
          · obtain rfl : v = q := by omega
            go_wp2
            go_round
            case rel => exact ⟨k + 1, by omega, by go_num, by rw [HS.out]; go_num⟩
            case measure => simp [intOf]; omega
      · have hs : sumTo l (k + 1) = sumTo l k := by
          show sumTo l k + share (ix l k) = _
          rw [share_no ht]; rfl
        have HS := Lib.hid hs
        clear hs
        go_wp2
        all_goals
          go_round
          case rel => exact ⟨k + 1, by omega, by go_num, by rw [HS.out]⟩
          case measure => simp [intOf]; omega
    · obtain rfl : n = k := by omega
      go_wp2
      go_ret
      exact ⟨rfl, rfl⟩
end Go.Proofs.Ytckhkkjdibcclaa

/-
  The walk of the reference's Check.
-/
namespace Go.Proofs.Ytckhkkjdibcclaa
open Go.RowKit
set_option linter.unusedVariables false

def onesTo (l : List Int) : Nat → Nat
  | 0 => 0
  | k + 1 => onesTo l k + if ix l k = 1 then 1 else 0
theorem onesTo_le (l : List Int) (k : Nat) : onesTo l k ≤ posTo l k := by
  induction k with
  | zero => simp [onesTo]
  | succ k ih => simp only [onesTo, posTo]; split <;> split <;> omega
theorem onesTo_low {l : List Int} {k : Nat} (h : ∀ i, i < k → ix l i ≤ 1) : onesTo l k = posTo l k := by
  induction k with
  | zero => simp [onesTo, posTo]
  | succ k ih =>
    have h1 := ih fun i hi => h i (by omega)
    have h2 := h k (by omega)
    simp only [onesTo, posTo]
    split <;> split <;> omega
theorem onesTo_high {l : List Int} {n k : Nat} (hk : k < n) (h : 1 < ix l k) : onesTo l n < posTo l n := by
  induction n with
  | zero => omega
  | succ n ih =>
    simp only [onesTo, posTo]
    by_cases e : k = n
    · subst e
      have := onesTo_le l k
      rw [if_neg (by omega), if_pos (by omega)]; omega
    · have := ih (by omega)
      split <;> split <;> omega
theorem aloneB_iff (l : List Int) (n : Nat) : aloneB l n = true ↔ (posTo l n = 0 ∨ (posTo l n = 1 ∧ onesTo l n = 1)) := by
  unfold aloneB lowTo
  simp only [Bool.and_eq_true, decide_eq_true_eq]
  constructor
  · rintro ⟨h1, h2⟩
    have := onesTo_low h1
    omega
  · intro h
    refine ⟨fun i hi => ?_, by omega⟩
    by_cases hh : 1 < ix l i
    · have := onesTo_high hi hh; omega
    · omega

set_option maxRecDepth 100000 in
set_option maxHeartbeats 1000000 in
theorem rcheck_any (A : Option Addr) (n c B : Nat) (l : List Int) (most : Int) (w : World) (hl : RdI .i64 w B A n l) (hn : n ≤ 1000) :
    Calls Try.prog 14 #[.slice A n c, .int .i64 most] w fun e w' => e = .returned (.int .i64 (checkOf l most)) ∧ w = w' := by
  have hln := Lib.hid hl.1
  by_cases h0 : most < 1 ∨ 15 < most ∨ 288 < n
  · have HC := Lib.hid (checkOf_arg (l := l) (most := most) (by rw [← hln.out]; exact h0))
    by_cases h1 : most < 1
    · clear h0
      go_enter Try.func14, Try.ntmps14
      go_wp2
      go_ret
      exact ⟨ret_int HC.out.symm, rfl⟩
    · by_cases h2 : 15 < most
      · clear h0
        go_enter Try.func14, Try.ntmps14
        go_wp2
        go_ret
        exact ⟨ret_int HC.out.symm, rfl⟩
      · have h3 : 288 < n := by omega
        clear h0
        go_enter Try.func14, Try.ntmps14
        go_wp2
        go_ret
        exact ⟨ret_int HC.out.symm, rfl⟩
  · have H0 := Lib.hid (show ¬ (most < 1 ∨ 15 < most ∨ 288 < l.length) by rw [← hln.out]; exact h0)
    have hm : 1 ≤ most ∧ most ≤ 15 := by omega
    have hn2 : n ≤ 288 := by omega
    clear h0
    go_enter Try.func14, Try.ntmps14
    go_wp2
    go_loop [5, 6, 7] (fun s o i => ∃ k : Nat, k ≤ n ∧ i = .int .i64 k ∧ s = .int .i64 (posTo l k) ∧ o = .int .i64 (onesTo l k) ∧ Hid (∀ j, j < k → 0 ≤ ix l j ∧ ix l j ≤ most)) (fun _ _ i => n - (intOf i).toNat)
    case atStart => exact ⟨0, Nat.zero_le _, rfl, rfl, rfl, fun j hj => absurd hj (by omega)⟩
    case round =>
      obtain ⟨k, hk, rfl, rfl, rfl, hin⟩ := hrel
      have b3 := posTo_le l k
      have b4 := onesTo_le l k
      by_cases hlt : k < n
      · obtain ⟨a1, rfl, _, hc⟩ := hl.at_ hlt
        by_cases ht : 0 ≤ ix l k ∧ ix l k ≤ most
        · have hfin : Hid (∀ j, j < k + 1 → 0 ≤ ix l j ∧ ix l j ≤ most) := by
            intro j hj
            by_cases e : j = k
            · subst e; exact ht
            · exact hin.out j (by omega)
          by_cases hp : 0 < ix l k
          · have HP := Lib.hid (show posTo l (k + 1) = posTo l k + 1 by simp [posTo, hp])
            by_cases ho : ix l k = 1
            · have HO := Lib.hid (show onesTo l (k + 1) = onesTo l k + 1 by simp [onesTo, ho])
              rw [ho] at hc ht hp
              clear ho
              go_wp2
              go_round
              case rel => exact ⟨k + 1, by omega, by go_num, by rw [HP.out]; go_num, by rw [HO.out]; go_num, hfin⟩
              case measure => simp [intOf]; omega
            · have HO := Lib.hid (show onesTo l (k + 1) = onesTo l k by simp [onesTo, ho])
              have ho' : (ix l k == 1) = false := by simpa using ho
              go_wp2
              go_round
              case rel => exact ⟨k + 1, by omega, by go_num, by rw [HP.out]; go_num, by rw [HO.out], hfin⟩
              case measure => simp [intOf]; omega
          · have HP := Lib.hid (show posTo l (k + 1) = posTo l k by simp [posTo, hp])
            have ho : ¬ ix l k = 1 := by omega
            have HO := Lib.hid (show onesTo l (k + 1) = onesTo l k by simp [onesTo, ho])
            have ho' : (ix l k == 1) = false := by simpa using ho
            go_wp2
            go_round
            case rel => exact ⟨k + 1, by omega, by go_num, by rw [HP.out], by rw [HO.out], hfin⟩
            case measure => simp [intOf]; omega
        · have HC := Lib.hid (checkOf_in (most := most) (show k < l.length by rw [← hln.out]; exact hlt) ht)
          by_cases h1 : ix l k < 0
          · go_wp2
            go_ret
            exact ⟨ret_int HC.out.symm, rfl⟩
          · have h2 : most < ix l k := by omega
            go_wp2
            go_ret
            exact ⟨ret_int HC.out.symm, rfl⟩
      · obtain rfl : n = k := by omega
        have hin' := Lib.hid (show ∀ j, j < l.length → 0 ≤ ix l j ∧ ix l j ≤ most by rw [← hln.out]; exact hin.out)
        obtain ⟨S, hS⟩ : ∃ S : Int, ((sumTo l n : Nat) : Int) = S := ⟨_, rfl⟩
        have b1 : (0 : Int) ≤ S ∧ S ≤ 32768 * (n : Int) := by have := sumTo_bd l n; omega
        have HS := Lib.hid hS
        clear hS
        by_cases hs : (32768 : Int) < S
        · have HC := Lib.hid (checkOf_code H0.out hin'.out (.inl (by rw [← hln.out]; have := HS.out; omega)))
          go_wp2_with (go_at_call 34; refine (rsum_any _ _ _ _ _ _ hl hn).mono ?_; rintro e w' ⟨rfl, rfl⟩; rw [HS.out])
          go_ret
          exact ⟨ret_int HC.out.symm, rfl⟩
        · have hd1 : decide ((32768 : Int) < S) = false := by simpa using hs
          by_cases hs2 : S < 32768
          · have hcs : posTo l n = 0 ∨ (posTo l n = 1 ∧ onesTo l n = 1) ∨ (posTo l n = 1 ∧ onesTo l n ≠ 1) ∨ 2 ≤ posTo l n := by omega
            rcases hcs with hp | hp | hp | hp
            · skip
              have HC := Lib.hid (checkOf_ok (l := l) (most := most) H0.out hin'.out (by rw [← hln.out, (aloneB_iff l n).2 (by omega)]; have := HS.out; simp; omega))
              have e0 : (((posTo l n : Nat) : Int) == 0) = true := by simp; omega
              clear hp b3 b4
              go_wp2_with (go_at_call 34; refine (rsum_any _ _ _ _ _ _ hl hn).mono ?_; rintro e w' ⟨rfl, rfl⟩; rw [HS.out])
              go_ret
              exact ⟨ret_int HC.out.symm, rfl⟩
            · skip
              have HC := Lib.hid (checkOf_ok (l := l) (most := most) H0.out hin'.out (by rw [← hln.out, (aloneB_iff l n).2 (by omega)]; have := HS.out; simp; omega))
              have e0 : (((posTo l n : Nat) : Int) == 0) = false := by simp; omega
              have e1 : (((posTo l n : Nat) : Int) == 1) = true := by simp; omega
              have e2 : (((onesTo l n : Nat) : Int) == 1) = true := by simp; omega
              clear hp b3 b4
              go_wp2_with (go_at_call 34; refine (rsum_any _ _ _ _ _ _ hl hn).mono ?_; rintro e w' ⟨rfl, rfl⟩; rw [HS.out])
              go_ret
              exact ⟨ret_int HC.out.symm, rfl⟩
            · skip
              have HC := Lib.hid (checkOf_code (l := l) (most := most) H0.out hin'.out (.inr (by rw [← hln.out]; exact ⟨by have := HS.out; omega, by rw [← Bool.not_eq_true, aloneB_iff]; omega⟩)))
              have e0 : (((posTo l n : Nat) : Int) == 0) = false := by simp; omega
              have e1 : (((posTo l n : Nat) : Int) == 1) = true := by simp; omega
              have e2 : (((onesTo l n : Nat) : Int) == 1) = false := by simp; omega
              clear hp b3 b4
              go_wp2_with (go_at_call 34; refine (rsum_any _ _ _ _ _ _ hl hn).mono ?_; rintro e w' ⟨rfl, rfl⟩; rw [HS.out])
              go_ret
              exact ⟨ret_int HC.out.symm, rfl⟩
            · skip
              have HC := Lib.hid (checkOf_code (l := l) (most := most) H0.out hin'.out (.inr (by rw [← hln.out]; exact ⟨by have := HS.out; omega, by rw [← Bool.not_eq_true, aloneB_iff]; omega⟩)))
              have e0 : (((posTo l n : Nat) : Int) == 0) = false := by simp; omega
              have e1 : (((posTo l n : Nat) : Int) == 1) = false := by simp; omega
              clear hp b3 b4
              go_wp2_with (go_at_call 34; refine (rsum_any _ _ _ _ _ _ hl hn).mono ?_; rintro e w' ⟨rfl, rfl⟩; rw [HS.out])
              go_ret
              exact ⟨ret_int HC.out.symm, rfl⟩
          · have HC := Lib.hid (checkOf_ok H0.out hin'.out (by rw [← hln.out]; have := HS.out; omega))
            go_wp2_with (go_at_call 34; refine (rsum_any _ _ _ _ _ _ hl hn).mono ?_; rintro e w' ⟨rfl, rfl⟩; rw [HS.out])
            go_ret
            exact ⟨ret_int HC.out.symm, rfl⟩
end Go.Proofs.Ytckhkkjdibcclaa
