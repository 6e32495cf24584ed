/-
  Several texts in one (written by pack2.py): Check, Same, Cost, RCodes, RSum, RCheck.
-/
import Derived.Test.YtlgkiookobedcaaProg
import Derived.Test.YtlgkiookobedcaaPk1
import Derived.Test.YtlgkiookobedcaaPk7
import Derived.Test.YtlgkiookobedcaaPk2
namespace Go.Proofs.Ytlgkiookobedcaa
open Go.RowKit
set_option linter.unusedVariables false
theorem checkOf_arg {l : List Int} {most : Int} (h : most < 1 ∨ 15 < most ∨ 288 < l.length) : checkOf l most = 1 := by unfold checkOf; rw [if_pos h]
theorem checkOf_in {l : List Int} {most : Int} {k : Nat} (hk : k < l.length) (h : ¬ (0 ≤ ix l k ∧ ix l k ≤ most)) : checkOf l most = 1 := by
  unfold checkOf
  by_cases h0 : most < 1 ∨ 15 < most ∨ 288 < l.length
  · rw [if_pos h0]
  · rw [if_neg h0, if_pos (inTo_not hk h)]
theorem checkOf_code {l : List Int} {most : Int} (h0 : ¬ (most < 1 ∨ 15 < most ∨ 288 < l.length)) (h1 : ∀ i, i < l.length → 0 ≤ ix l i ∧ ix l i ≤ most)
    (h : 32768 < sumTo l l.length ∨ (sumTo l l.length < 32768 ∧ aloneB l l.length = false)) : checkOf l most = 3 := by
  unfold checkOf
  rw [if_neg h0, if_neg (by rw [inTo_of h1]; simp), if_pos h]
theorem checkOf_ok {l : List Int} {most : Int} (h0 : ¬ (most < 1 ∨ 15 < most ∨ 288 < l.length)) (h1 : ∀ i, i < l.length → 0 ≤ ix l i ∧ ix l i ≤ most)
    (h : ¬ (32768 < sumTo l l.length ∨ (sumTo l l.length < 32768 ∧ aloneB l l.length = false))) : checkOf l most = 0 := by
  unfold checkOf
  rw [if_neg h0, if_neg (by rw [inTo_of h1]; simp), if_neg h]
set_option maxRecDepth 100000 in
set_option maxHeartbeats 1000000 in
theorem check_any (A : Option Addr) (n c B : Nat) (l : List Int) (most : Int) (w : World) (hl : RdI .i64 w B A n l) (hn : n ≤ 1000) :
    Calls Try.prog 75 #[.slice A n c, .int .i64 most] w fun e w' => e = .returned (.int .i64 (checkOf l most)) ∧ w = w' := by
  have hln := Lib.hid hl.1
  by_cases h0 : most < 1 ∨ 15 < most ∨ 288 < n
  · have HC := Lib.hid (checkOf_arg (l := l) (most := most) (by rw [← hln.out]; exact h0))
    by_cases h1 : most < 1
    · clear h0
      go_enter Try.func75, Try.ntmps75
      go_wp2
      go_ret
      exact ⟨ret_int HC.out.symm, rfl⟩
    · by_cases h2 : 15 < most
      · clear h0
        go_enter Try.func75, Try.ntmps75
        go_wp2
        go_ret
        exact ⟨ret_int HC.out.symm, rfl⟩
      · have h3 : 288 < n := by omega
        clear h0
        go_enter Try.func75, Try.ntmps75
        go_wp2
        go_ret
        exact ⟨ret_int HC.out.symm, rfl⟩
  · have H0 := Lib.hid (show ¬ (most < 1 ∨ 15 < most ∨ 288 < l.length) by rw [← hln.out]; exact h0)
    have hm : 1 ≤ most ∧ most ≤ 15 := by omega
    have hn2 : n ≤ 288 := by omega
    clear h0
    go_enter Try.func75, Try.ntmps75
    go_wp2
    go_loop [21] (fun i => ∃ k : Nat, k ≤ n ∧ i = .int .i64 k ∧ Hid (∀ j, j < k → 0 ≤ ix l j ∧ ix l j ≤ most)) (fun i => n - (intOf i).toNat)
    case atStart => exact ⟨0, Nat.zero_le _, rfl, fun j hj => absurd hj (by omega)⟩
    case round =>
      obtain ⟨k, hk, rfl, hin⟩ := hrel
      by_cases hlt : k < n
      · obtain ⟨a1, rfl, _, hc⟩ := hl.at_ hlt
        by_cases ht : 0 ≤ ix l k ∧ ix l k ≤ most
        · go_wp2
          go_round
          case rel =>
            refine ⟨k + 1, by omega, by go_num, fun j hj => ?_⟩
            by_cases e : j = k
            · subst e; exact ht
            · exact hin.out j (by omega)
          case measure => simp [intOf]; omega
        · have HC := Lib.hid (checkOf_in (most := most) (show k < l.length by rw [← hln.out]; exact hlt) ht)
          by_cases h1 : ix l k < 0
          · go_wp2
            go_ret
            exact ⟨ret_int HC.out.symm, rfl⟩
          · have h2 : most < ix l k := by omega
            go_wp2
            go_ret
            exact ⟨ret_int HC.out.symm, rfl⟩
      · obtain rfl : n = k := by omega
        have hin' := Lib.hid (show ∀ j, j < l.length → 0 ≤ ix l j ∧ ix l j ≤ most by rw [← hln.out]; exact hin.out)
        obtain ⟨S, hS⟩ : ∃ S : Int, ((sumTo l n : Nat) : Int) = S := ⟨_, rfl⟩
        have b1 : (0 : Int) ≤ S ∧ S ≤ 32768 * (n : Int) := by have := sumTo_bd l n; omega
        have HS := Lib.hid hS
        clear hS
        by_cases hs : (32768 : Int) < S
        · have HC := Lib.hid (checkOf_code H0.out hin'.out (.inl (by rw [← hln.out]; have := HS.out; omega)))
          go_wp2_with (first | (go_at_call 85; refine (sum_any _ _ _ _ _ _ hl hn).mono ?_; rintro e w' ⟨rfl, rfl⟩; rw [HS.out]) | (go_at_call 86; refine (alone_any _ _ _ _ _ _ hl hn).mono ?_; rintro e w' ⟨rfl, rfl⟩))
          go_ret
          exact ⟨ret_int HC.out.symm, rfl⟩
        · have hd1 : decide ((32768 : Int) < S) = false := by simpa using hs
          by_cases hs2 : S < 32768
          · cases hal : aloneB l n
            · have HC := Lib.hid (checkOf_code H0.out hin'.out (.inr (by rw [← hln.out]; exact ⟨by have := HS.out; omega, hal⟩)))
              have HA := Lib.hid hal
              clear hal
              go_wp2_with (first | (go_at_call 85; refine (sum_any _ _ _ _ _ _ hl hn).mono ?_; rintro e w' ⟨rfl, rfl⟩; rw [HS.out]) | (go_at_call 86; refine (alone_any _ _ _ _ _ _ hl hn).mono ?_; rintro e w' ⟨rfl, rfl⟩; rw [HA.out]))
              go_ret
              exact ⟨ret_int HC.out.symm, rfl⟩
            · have HC := Lib.hid (checkOf_ok H0.out hin'.out (by rw [← hln.out, hal]; have := HS.out; simp; omega))
              have HA := Lib.hid hal
              clear hal
              go_wp2_with (first | (go_at_call 85; refine (sum_any _ _ _ _ _ _ hl hn).mono ?_; rintro e w' ⟨rfl, rfl⟩; rw [HS.out]) | (go_at_call 86; refine (alone_any _ _ _ _ _ _ hl hn).mono ?_; rintro e w' ⟨rfl, rfl⟩; rw [HA.out]))
              go_ret
              exact ⟨ret_int HC.out.symm, rfl⟩
          · have HC := Lib.hid (checkOf_ok H0.out hin'.out (by rw [← hln.out]; have := HS.out; omega))
            go_wp2_with (first | (go_at_call 85; refine (sum_any _ _ _ _ _ _ hl hn).mono ?_; rintro e w' ⟨rfl, rfl⟩; rw [HS.out]) | (go_at_call 86; refine (alone_any _ _ _ _ _ _ hl hn).mono ?_; rintro e w' ⟨rfl, rfl⟩))
            go_ret
            exact ⟨ret_int HC.out.symm, rfl⟩
end Go.Proofs.Ytlgkiookobedcaa
namespace Go.Proofs.Ytlgkiookobedcaa
open Go.RowKit
set_option linter.unusedVariables false
theorem same_any (w : World) (B n c m d : Nat) (A C : Option Addr) (l b : List Int) (hl : RdI .u8 w B A n l) (hb : RdI .u8 w B C m b) (hn : (n : Int) ≤ 1000000000) (he : l = b) :
    Calls Try.prog 10 #[.slice A n c, .slice C m d] w fun e w' => e = .returned (.bool true) ∧ ∃ q, w' = w.drewN q := by
  have hnm : n = m := by rw [hl.1, hb.1, he]
  subst hnm
  subst he
  go_enter Try.func10, Try.ntmps10
  go_wp2
  go_loopw [5] (fun i wr => ∃ k q : Nat, k ≤ n ∧ i = .int .i64 k ∧ wr = w.drewN q) (fun i _ => n - (intOf i).toNat)
  case atStart => exact ⟨0, 0, Nat.zero_le _, rfl, rfl⟩
  case round =>
    obtain ⟨k, q, hk, rfl, rfl⟩ := hrel
    by_cases hlt : k < n
    · obtain ⟨a1, rfl, _, hc⟩ := hl.at_ hlt
      obtain ⟨a2, rfl, _, hc2⟩ := hb.at_ hlt
      have hk0 : (0 : Int) ≤ k ∧ (k : Int) < n := by omega
      obtain ⟨v, hv⟩ : ∃ v : Int, ix l k = v := ⟨_, rfl⟩
      rw [hv] at hc hc2
      clear hv
      go_wp2
      go_quiet (fail)
      go_wp2
      go_roundw
      case rel => exact ⟨k + 1, _, by omega, by go_num, rfl⟩
      case measure => simp [intOf]; omega
    · obtain rfl : n = k := by omega
      go_wp2
      go_ret
      exact ⟨rfl, _, rfl⟩
end Go.Proofs.Ytlgkiookobedcaa
namespace Go.Proofs.Ytlgkiookobedcaa
open Go.RowKit
set_option linter.unusedVariables false
set_option maxHeartbeats 400000 in
theorem cost_any (A C : Option Addr) (n m c d : Nat) (l f : List Int) (w : World) (B : Nat) (hl : RdI .i64 w B A n l) (hf : RdI .i64 w B C m f) (hn : n ≤ 1000) (hm : m ≤ 1000) :
    Calls Try.prog 72 #[.slice A n c, .slice C m d] w fun e w' => e = .returned (.int .i64 (costTo l f (min n m))) ∧ ∃ q, w' = w.drewN q := by
  go_enter Try.func72, Try.ntmps72
  go_wp2
  all_goals
    go_loopw [5, 14] (fun s i wr => ∃ k : Nat, k ≤ min n m ∧ i = .int .i64 k ∧ s = .int .i64 (costTo l f k) ∧ ∃ q, wr = w.drewN q) (fun _ i _ => min n m - (intOf i).toNat)
    case atStart => exact ⟨0, Nat.zero_le _, rfl, rfl, 0, rfl⟩
    case round =>
      obtain ⟨k, hk, rfl, rfl, q, rfl⟩ := hrel
      by_cases hlt : k < min n m
      · have h1 := hl.at_ (i := k) (by omega)
        have h2 := hf.at_ (i := k) (by omega)
        obtain ⟨a1, rfl, _, hc1⟩ := h1
        obtain ⟨a2, rfl, _, hc2⟩ := h2
        have hkn : k < n := by omega
        have hkm : k < m := by omega
        have hk2 : (k : Int) < ((min n m : Nat) : Int) := by omega
        have bd := costTo_bd l f k (by omega)
        have bp := costOf_bd (ix l k) (ix f k)
        by_cases ht : 0 < ix l k ∧ 0 < ix f k ∧ ix f k ≤ 1048576 ∧ ix l k ≤ 1048576
        · obtain ⟨t1, t2, t3, t4⟩ := ht
          have he := costOf_yes t1 t2 t3 t4
          rw [he] at bp
          have hs : Hid (costTo l f (k + 1) = costTo l f k + ix l k * ix f k) := by show costTo l f k + costOf (ix l k) (ix f k) = _; rw [he]
          clear he
          go_wp2
          go_quiet (fail)
          go_wp2
          go_roundw
          case rel => exact ⟨k + 1, by omega, by go_num, by rw [hs.out], _, rfl⟩
          case measure => simp [intOf]; omega
        · have he := costOf_no ht
          have hs : Hid (costTo l f (k + 1) = costTo l f k) := by show costTo l f k + costOf (ix l k) (ix f k) = _; rw [he]; omega
          clear he
          go_wp2
          go_quiet (fail)
          go_wp2
          all_goals
            go_roundw
            case rel => exact ⟨k + 1, by omega, by go_num, by rw [hs.out], _, rfl⟩
            case measure => simp [intOf]; omega
      · have : k = min n m := by omega
        subst this
        go_wp2
        go_ret
        exact ⟨rfl, _, rfl⟩
end Go.Proofs.Ytlgkiookobedcaa
namespace Go.Proofs.Ytlgkiookobedcaa
open Go.RowKit
set_option linter.unusedVariables false
set_option maxHeartbeats 1000000 in
theorem rcodes_new (A : Option Addr) (n c B : Nat) (l : List Int) (w : World) (hl : RdI .i64 w B A n l) (hB : B ≤ w.heap.size) (hn : n ≤ 288) :
    Calls Try.prog 34 #[.slice A n c] w fun e w' => ∃ g, e = .returned (.slice (some ⟨g, 0, none⟩) n n) ∧ RdI .u32 w' w'.heap.size (some ⟨g, 0, none⟩) n (codesOf l) ∧ Below w.heap.size w w' ∧ w.heap.size ≤ g := by
  obtain ⟨i0, hi, hz0, hz1, hz2⟩ := info_parts codes_info
  have hln1 : n ≤ l.length ∧ l.length ≤ n := by have := hl.1; omega
  have hlnH := Lib.hid hl.1
  have hmk := fun W => run_make_zrow (P := Try.prog) 33 47 i0 (.int .u32 0) Try.underlying33 hi hz0 hz1 rfl .i64 .i64 n (by rw [hz2]; omega) (by omega) W
  have HM := Lib.hid hmk
  clear hmk hi hz0 hz1 hz2
  have hn1 : ¬ (288 < (n : Int)) := by omega
  have hm := HM.out w
  go_enter Try.func34, Try.ntmps34
  go_wp2
  clear hm
  have o1 : Ar (w.alloc (.cells (zrow n (.int .u32 0)) 47)) w.heap.size n (doneV l 1 0) := (Ar.zeros' n (.int .u32 0) 47 rfl).congr fun j _ => doneV_start l j
  have hb : Below w.heap.size w (w.alloc (.cells (zrow n (.int .u32 0)) 47)) := (Below.refl _ _).alloc (Nat.le_refl _) _
  obtain ⟨wp, hwp⟩ : ∃ wp : World, wp = w.alloc (.cells (zrow n (.int .u32 0)) 47) := ⟨_, rfl⟩
  rw [← hwp] at o1 hb ⊢
  clear hwp
  go_loopw [4, 5] (fun s i wr => ∃ v : Nat, 1 ≤ v ∧ v ≤ 16 ∧ i = .int .i64 v ∧ s = .int .u32 (preC l v) ∧ Ar wr w.heap.size n (doneV l v 0) ∧ Below w.heap.size w wr) (fun _ i _ => 16 - (intOf i).toNat)
  case atStart => exact ⟨1, by omega, by omega, rfl, by rw [preC_one]; rfl, o1, hb⟩
  case round =>
    obtain ⟨v, hv1, hv, rfl, rfl, o1, hb⟩ := hrel
    by_cases hlt : v < 16
    · have hx := Lib.hid (preC_nxt l hv1)
      have bd := nxt_bd l (by omega) (v := v) (by omega)
      have bp : preC l v ≤ 9437184 := by have := preC_nxt l hv1; omega
      go_wp2
      obtain ⟨wo, rfl⟩ : ∃ wo : World, wo = wr := ⟨_, rfl⟩
      go_loopw [4, 6] (fun s i wr => ∃ k : Nat, k ≤ n ∧ i = .int .i64 k ∧ s = .int .u32 ((nxt l v + cnt l k v : Nat) : Int) ∧ Ar wr w.heap.size n (doneV l v k) ∧ Below w.heap.size w wr) (fun _ i _ => n - (intOf i).toNat)
      case atStart => exact ⟨0, by omega, rfl, by rw [hx.out]; congr 1; simp [cnt]; omega, o1, hb⟩
      case round =>
        obtain ⟨k, hk, rfl, rfl, o1, hb⟩ := hrel
        by_cases hkn : k < n
        · obtain ⟨a1, rfl, _, hc⟩ := ((hl.more hB).below hb).at_ hkn
          have c2 := o1.cell hkn
          have z2 := o1.frozen' (i := k) (by omega)
          have b2 := cnt_le l k v
          by_cases he : ix l k = v
          · have hs := Lib.hid (show cnt l (k + 1) v = cnt l k v + 1 by simp [cnt, he])
            have HE := Lib.hid he
            rw [he] at hc
            clear he
            go_wp2
            go_roundw
            case rel => exact ⟨k + 1, by omega, by go_num, by rw [hs.out]; congr 1, (o1.set_ hkn _).congr fun j _ => doneV_hit hv1 (by omega) HE.out j, hb.setCell (Nat.le_refl _) _⟩
            case measure => simp [intOf]; omega
          · have hs := Lib.hid (show cnt l (k + 1) v = cnt l k v by simp [cnt, he])
            have he' : (ix l k == (v : Int)) = false := by simpa using he
            go_wp2
            go_roundw
            case rel => exact ⟨k + 1, by omega, by go_num, by rw [hs.out], o1.congr fun j _ => doneV_miss he j, hb⟩
            case measure => simp [intOf]; omega
        · obtain rfl : n = k := by omega
          go_wp2
          go_roundw
          case rel => exact ⟨v + 1, by omega, by omega, by go_num, by rw [preC_succ l hv1, ← hlnH.out], o1.congr fun j hj => by rw [← doneV_next l v j (by omega), ← hlnH.out], hb⟩
          case measure => simp [intOf]; omega
    · obtain rfl : 16 = v := by omega
      go_wp2
      go_ret
      refine ⟨_, rfl, ⟨by rw [codesOf_length l (by omega)]; omega, ?_⟩, hb, Nat.le_refl _⟩
      refine (o1.rd o1.lt (Nat.le_refl _)).congr fun i hi => ?_
      rw [doneV_end, ix_codesOf l (by omega) (by omega)]
end Go.Proofs.Ytlgkiookobedcaa
namespace Go.Proofs.Ytlgkiookobedcaa
open Go.RowKit
set_option linter.unusedVariables false
set_option maxHeartbeats 400000 in
theorem rsum_any (A : Option Addr) (n c B : Nat) (l : List Int) (w : World) (hl : RdI .i64 w B A n l) (hn : n ≤ 1000) :
    Calls Try.prog 52 #[.slice A n c] w fun e w' => e = .returned (.int .i64 (sumTo l n)) ∧ w = w' := by
  go_enter Try.func52, Try.ntmps52
  go_wp2
  go_loop [3, 4] (fun s i => ∃ k : Nat, k ≤ n ∧ i = .int .i64 k ∧ s = .int .i64 (sumTo l k)) (fun _ i => n - (intOf i).toNat)
  case atStart => exact ⟨0, Nat.zero_le _, rfl, rfl⟩
  case round =>
    obtain ⟨k, hk, rfl, rfl⟩ := hrel
    have bd := sumTo_bd l k
    by_cases hlt : k < n
    · obtain ⟨a1, rfl, _, hc⟩ := hl.at_ hlt
      by_cases ht : 1 ≤ ix l k ∧ ix l k ≤ 15
      · obtain ⟨v, hv⟩ : ∃ v : Nat, ix l k = (v : Int) := ⟨(ix l k).toNat, by omega⟩
        have hs : sumTo l (k + 1) = sumTo l k + p15 v := by
          show sumTo l k + share (ix l k) = _
          rw [hv, share_yes (by omega) (by omega)]
        have HS := Lib.hid hs
        rw [hv] at hc ht
        have hb1 : (1 : Int) ≤ (v : Int) ∧ (v : Int) ≤ 15 := ht
        clear hv hs
        go_wp2
        go_loop [5, 6] (fun p j => ∃ q : Nat, q ≤ v ∧ j = .int .i64 q ∧ p = .int .i64 (p15 q)) (fun _ j => v - (intOf j).toNat)
        case atStart => exact ⟨0, Nat.zero_le _, rfl, rfl⟩
        case round =>
          obtain ⟨q, hq, rfl, rfl⟩ := hrel
          have b2 := p15_bd q
          by_cases hqv : q < v
          · have hh := Lib.hid (p15_half (v := q) (by omega))
            go_wp2
            go_round
            case rel => exact ⟨q + 1, by omega, by go_num, by rw [hh.out]; congr 1; omega⟩
            case measure => simp [intOf]; omega
          · obtain rfl : v = q := by omega
            go_wp2
            go_round
            case rel => exact ⟨k + 1, by omega, by go_num, by rw [HS.out]; go_num⟩
            case measure => simp [intOf]; omega
      · have hs : sumTo l (k + 1) = sumTo l k := by
          show sumTo l k + share (ix l k) = _
          rw [share_no ht]; rfl
        have HS := Lib.hid hs
        clear hs
        go_wp2
        all_goals
          go_round
          case rel => exact ⟨k + 1, by omega, by go_num, by rw [HS.out]⟩
          case measure => simp [intOf]; omega
    · obtain rfl : n = k := by omega
      go_wp2
      go_ret
      exact ⟨rfl, rfl⟩
end Go.Proofs.Ytlgkiookobedcaa
namespace Go.Proofs.Ytlgkiookobedcaa
open Go.RowKit
set_option linter.unusedVariables false
def onesTo (l : List Int) : Nat → Nat
  | 0 => 0
  | k + 1 => onesTo l k + if ix l k = 1 then 1 else 0
theorem onesTo_le (l : List Int) (k : Nat) : onesTo l k ≤ posTo l k := by
  induction k with
  | zero => simp [onesTo]
  | succ k ih => simp only [onesTo, posTo]; split <;> split <;> omega
theorem onesTo_low {l : List Int} {k : Nat} (h : ∀ i, i < k → ix l i ≤ 1) : onesTo l k = posTo l k := by
  induction k with
  | zero => simp [onesTo, posTo]
  | succ k ih =>
    have h1 := ih fun i hi => h i (by omega)
    have h2 := h k (by omega)
    simp only [onesTo, posTo]
    split <;> split <;> omega
theorem onesTo_high {l : List Int} {n k : Nat} (hk : k < n) (h : 1 < ix l k) : onesTo l n < posTo l n := by
  induction n with
  | zero => omega
  | succ n ih =>
    simp only [onesTo, posTo]
    by_cases e : k = n
    · subst e
      have := onesTo_le l k
      rw [if_neg (by omega), if_pos (by omega)]; omega
    · have := ih (by omega)
      split <;> split <;> omega
theorem aloneB_iff (l : List Int) (n : Nat) : aloneB l n = true ↔ (posTo l n = 0 ∨ (posTo l n = 1 ∧ onesTo l n = 1)) := by
  unfold aloneB lowTo
  simp only [Bool.and_eq_true, decide_eq_true_eq]
  constructor
  · rintro ⟨h1, h2⟩
    have := onesTo_low h1
    omega
  · intro h
    refine ⟨fun i hi => ?_, by omega⟩
    by_cases hh : 1 < ix l i
    · have := onesTo_high hi hh; omega
    · omega
set_option maxRecDepth 100000 in
set_option maxHeartbeats 1000000 in
theorem rcheck_any (A : Option Addr) (n c B : Nat) (l : List Int) (most : Int) (w : World) (hl : RdI .i64 w B A n l) (hn : n ≤ 1000) :
    Calls Try.prog 38 #[.slice A n c, .int .i64 most] w fun e w' => e = .returned (.int .i64 (checkOf l most)) ∧ w = w' := by
  have hln := Lib.hid hl.1
  by_cases h0 : most < 1 ∨ 15 < most ∨ 288 < n
  · have HC := Lib.hid (checkOf_arg (l := l) (most := most) (by rw [← hln.out]; exact h0))
    by_cases h1 : most < 1
    · clear h0
      go_enter Try.func38, Try.ntmps38
      go_wp2_with fail
      go_ret
      exact ⟨ret_int HC.out.symm, rfl⟩
    · by_cases h2 : 15 < most
      · clear h0
        go_enter Try.func38, Try.ntmps38
        go_wp2_with fail
        go_ret
        exact ⟨ret_int HC.out.symm, rfl⟩
      · have h3 : 288 < n := by omega
        clear h0
        go_enter Try.func38, Try.ntmps38
        go_wp2_with fail
        go_ret
        exact ⟨ret_int HC.out.symm, rfl⟩
  · have H0 := Lib.hid (show ¬ (most < 1 ∨ 15 < most ∨ 288 < l.length) by rw [← hln.out]; exact h0)
    have hm : 1 ≤ most ∧ most ≤ 15 := by omega
    have hn2 : n ≤ 288 := by omega
    have q1 : decide (most < 1) = false := by simp; omega
    have q2 : decide (15 < most) = false := by simp; omega
    have q3 : decide ((288 : Int) < (n : Int)) = false := by simp; omega
    clear h0
    go_enter Try.func38, Try.ntmps38
    go_wp2_with fail
    go_loop [5, 6, 7] (fun s o i => ∃ k : Nat, k ≤ n ∧ i = .int .i64 k ∧ s = .int .i64 (posTo l k) ∧ o = .int .i64 (onesTo l k) ∧ Hid (∀ j, j < k → 0 ≤ ix l j ∧ ix l j ≤ most)) (fun _ _ i => n - (intOf i).toNat)
    case atStart => exact ⟨0, Nat.zero_le _, rfl, rfl, rfl, fun j hj => absurd hj (by omega)⟩
    case round =>
      obtain ⟨k, hk, rfl, rfl, rfl, hin⟩ := hrel
      have b3 := posTo_le l k
      have b4 := onesTo_le l k
      by_cases hlt : k < n
      · obtain ⟨a1, rfl, _, hc⟩ := hl.at_ hlt
        by_cases ht : 0 ≤ ix l k ∧ ix l k ≤ most
        · have hfin : Hid (∀ j, j < k + 1 → 0 ≤ ix l j ∧ ix l j ≤ most) := by
            intro j hj
            by_cases e : j = k
            · subst e; exact ht
            · exact hin.out j (by omega)
          by_cases hp : 0 < ix l k
          · have HP := Lib.hid (show posTo l (k + 1) = posTo l k + 1 by simp [posTo, hp])
            by_cases ho : ix l k = 1
            · have HO := Lib.hid (show onesTo l (k + 1) = onesTo l k + 1 by simp [onesTo, ho])
              rw [ho] at hc ht hp
              clear ho
              have t2 : decide (most < 1) = false := by simp; omega
              go_wp2_with fail
              go_round
              case rel => exact ⟨k + 1, by omega, by go_num, by rw [HP.out]; go_num, by rw [HO.out]; go_num, hfin⟩
              case measure => simp [intOf]; omega
            · have HO := Lib.hid (show onesTo l (k + 1) = onesTo l k by simp [onesTo, ho])
              have ho' : (ix l k == 1) = false := by simpa using ho
              have t1 : decide (ix l k < 0) = false := by simp; omega
              have t2 : decide (most < ix l k) = false := by simp; omega
              go_wp2_with fail
              go_round
              case rel => exact ⟨k + 1, by omega, by go_num, by rw [HP.out]; go_num, by rw [HO.out], hfin⟩
              case measure => simp [intOf]; omega
          · have HP := Lib.hid (show posTo l (k + 1) = posTo l k by simp [posTo, hp])
            have ho : ¬ ix l k = 1 := by omega
            have HO := Lib.hid (show onesTo l (k + 1) = onesTo l k by simp [onesTo, ho])
            have ho' : (ix l k == 1) = false := by simpa using ho
            have t1 : decide (ix l k < 0) = false := by simp; omega
            have t2 : decide (most < ix l k) = false := by simp; omega
            go_wp2_with fail
            go_round
            case rel => exact ⟨k + 1, by omega, by go_num, by rw [HP.out], by rw [HO.out], hfin⟩
            case measure => simp [intOf]; omega
        · have HC := Lib.hid (checkOf_in (most := most) (show k < l.length by rw [← hln.out]; exact hlt) ht)
          by_cases h1 : ix l k < 0
          · go_wp2_with fail
            go_ret
            exact ⟨ret_int HC.out.symm, rfl⟩
          · have h2 : most < ix l k := by omega
            go_wp2_with fail
            go_ret
            exact ⟨ret_int HC.out.symm, rfl⟩
      · obtain rfl : n = k := by omega
        have hin' := Lib.hid (show ∀ j, j < l.length → 0 ≤ ix l j ∧ ix l j ≤ most by rw [← hln.out]; exact hin.out)
        obtain ⟨S, hS⟩ : ∃ S : Int, ((sumTo l n : Nat) : Int) = S := ⟨_, rfl⟩
        have b1 : (0 : Int) ≤ S ∧ S ≤ 32768 * (n : Int) := by have := sumTo_bd l n; omega
        have HS := Lib.hid hS
        clear hS
        by_cases hs : (32768 : Int) < S
        · have HC := Lib.hid (checkOf_code H0.out hin'.out (.inl (by rw [← hln.out]; have := HS.out; omega)))
          go_wp2_with (go_at_call 52; refine (rsum_any _ _ _ _ _ _ hl hn).mono ?_; rintro e w' ⟨rfl, rfl⟩; rw [HS.out])
          go_ret
          exact ⟨ret_int HC.out.symm, rfl⟩
        · have hd1 : decide ((32768 : Int) < S) = false := by simpa using hs
          by_cases hs2 : S < 32768
          · have hcs : posTo l n = 0 ∨ (posTo l n = 1 ∧ onesTo l n = 1) ∨ (posTo l n = 1 ∧ onesTo l n ≠ 1) ∨ 2 ≤ posTo l n := by omega
            rcases hcs with hp | hp | hp | hp
            · skip
              have HC := Lib.hid (checkOf_ok (l := l) (most := most) H0.out hin'.out (by rw [← hln.out, (aloneB_iff l n).2 (by omega)]; have := HS.out; simp; omega))
              have e0 : (((posTo l n : Nat) : Int) == 0) = true := by simp; omega
              clear hp b3 b4
              go_wp2_with (go_at_call 52; refine (rsum_any _ _ _ _ _ _ hl hn).mono ?_; rintro e w' ⟨rfl, rfl⟩; rw [HS.out])
              go_ret
              exact ⟨ret_int HC.out.symm, rfl⟩
            · skip
              have HC := Lib.hid (checkOf_ok (l := l) (most := most) H0.out hin'.out (by rw [← hln.out, (aloneB_iff l n).2 (by omega)]; have := HS.out; simp; omega))
              have e0 : (((posTo l n : Nat) : Int) == 0) = false := by simp; omega
              have e1 : (((posTo l n : Nat) : Int) == 1) = true := by simp; omega
              have e2 : (((onesTo l n : Nat) : Int) == 1) = true := by simp; omega
              clear hp b3 b4
              go_wp2_with (go_at_call 52; refine (rsum_any _ _ _ _ _ _ hl hn).mono ?_; rintro e w' ⟨rfl, rfl⟩; rw [HS.out])
              go_ret
              exact ⟨ret_int HC.out.symm, rfl⟩
            · skip
              have HC := Lib.hid (checkOf_code (l := l) (most := most) H0.out hin'.out (.inr (by rw [← hln.out]; exact ⟨by have := HS.out; omega, by rw [← Bool.not_eq_true, aloneB_iff]; omega⟩)))
              have e0 : (((posTo l n : Nat) : Int) == 0) = false := by simp; omega
              have e1 : (((posTo l n : Nat) : Int) == 1) = true := by simp; omega
              have e2 : (((onesTo l n : Nat) : Int) == 1) = false := by simp; omega
              clear hp b3 b4
              go_wp2_with (go_at_call 52; refine (rsum_any _ _ _ _ _ _ hl hn).mono ?_; rintro e w' ⟨rfl, rfl⟩; rw [HS.out])
              go_ret
              exact ⟨ret_int HC.out.symm, rfl⟩
            · skip
              have HC := Lib.hid (checkOf_code (l := l) (most := most) H0.out hin'.out (.inr (by rw [← hln.out]; exact ⟨by have := HS.out; omega, by rw [← Bool.not_eq_true, aloneB_iff]; omega⟩)))
              have e0 : (((posTo l n : Nat) : Int) == 0) = false := by simp; omega
              have e1 : (((posTo l n : Nat) : Int) == 1) = false := by simp; omega
              clear hp b3 b4
              go_wp2_with (go_at_call 52; refine (rsum_any _ _ _ _ _ _ hl hn).mono ?_; rintro e w' ⟨rfl, rfl⟩; rw [HS.out])
              go_ret
              exact ⟨ret_int HC.out.symm, rfl⟩
          · have HC := Lib.hid (checkOf_ok H0.out hin'.out (by rw [← hln.out]; have := HS.out; omega))
            go_wp2_with (go_at_call 52; refine (rsum_any _ _ _ _ _ _ hl hn).mono ?_; rintro e w' ⟨rfl, rfl⟩; rw [HS.out])
            go_ret
            exact ⟨ret_int HC.out.symm, rfl⟩
end Go.Proofs.Ytlgkiookobedcaa
