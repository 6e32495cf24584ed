/-
  The walks of the statements' own high, length, distance, layer 12.
-/
import Derived.Test.YtoegpffdbfkcpaaIJoinP
import Derived.Test.YtoegpffdbfkcpaaTokCR
import Derived.Test.YtoegpffdbfkcpaaRefO
namespace Go.Proofs.Ytoegpffdbfkcpaa
open Go.RowKit
set_option linter.unusedVariables false
theorem hiB_take (v : Int) (k p : Nat) : (hiB v (k + (p + 1))).take (k + 1) = (hiB v (k + (p + 1))).take k ++ [v / 2 ^ p % 2] := by
  have e : (hiB v (k + (p + 1)))[k]? = some (v / 2 ^ p % 2) := by
    unfold hiB
    rw [List.getElem?_reverse (by rw [ofN_length]; omega), ofN_length, show k + (p + 1) - 1 - k = p by omega]
    have h2 := ix_ofN v (k + (p + 1)) (i := p) (by omega)
    rw [← h2]
    have hlen : p < (ofN v (k + (p + 1))).length := by rw [ofN_length]; omega
    simp [ix, hlen]
  rw [List.take_add_one, e]
  rfl
def HighR (w : World) (v : Int) (n : Nat) (g : Nat) (o i : Value) (wr : World) : Prop :=
  ∃ (k d : Nat) (A : Option Addr), g + k = n ∧ i = .int .i64 ((g : Int) - 1) ∧ o = .slice A k d ∧ OwnI .u8 wr w.heap.size 5 A k d ((hiB v n).take k) ∧ Below w.heap.size w wr
set_option maxRecDepth 100000 in
set_option maxHeartbeats 1600000 in
theorem high_any (w : World) (v : Int) (n : Nat) (hv : 0 ≤ v ∧ v < 4294967296) (hn : (n : Int) ≤ 32) : Calls Try.prog 31 #[.int .i64 v, .int .i64 n] w (MkPost w (hiB v n)) := by
  obtain ⟨i0, hi, hz0, hz1, hz2⟩ := info_parts fbyte_info
  have Hi := Lib.hid hi
  have Hz0 := Lib.hid hz0
  have Hz1 := Lib.hid hz1
  have Hz2 := Lib.hid hz2
  clear hi hz0 hz1 hz2
  go_enter Try.func31, Try.ntmps31
  go_wp2
  go_loopg [5, 6] n (HighR w v n)
  case atStart => exact ⟨0, 0, none, rfl, by go_num, rfl, OwnI.nil_, Below.refl _ _⟩
  case round =>
    obtain ⟨k, d, A, hk, rfl, rfl, ho, hb⟩ := hrel
    by_cases hlt : 0 < gk
    · obtain ⟨p, rfl⟩ : ∃ p, gk = p + 1 := ⟨gk - 1, by omega⟩
      have hp : ((p + 1 : Nat) : Int) - 1 = (p : Int) := by omega
      have hpI : (0 : Int) ≤ p ∧ (p : Int) < 32 ∧ (k : Int) < 33 ∧ (0 : Int) ≤ k := by omega
      rw [hp]
      obtain ⟨y, hy⟩ : ∃ y, v / 2 ^ p = y := ⟨_, rfl⟩
      have hy2 : 0 ≤ y ∧ y < 4294967296 := by
        rw [← hy]
        exact ⟨Int.ediv_nonneg hv.1 (Int.le_of_lt (two_pos _)), Int.lt_of_le_of_lt (Int.ediv_le_self _ hv.1) hv.2⟩
      have HS : Hid ((hiB v n).take (k + 1) = (hiB v n).take k ++ [y % 2]) := by
        show _ = _
        rw [← hy, ← hk, Nat.add_comm (p + 1) k]
        exact hiB_take v k p
      have HK := Lib.hid hk
      clear hlt hp hk
      have hoA := ho.alloc (.cells #[.int .u8 (y % 2)] 5)
      have hbA := hb.alloc hb.size (.cells #[.int .u8 (y % 2)] 5)
      go_wp2_with (at_builtin; (refine wpList_app .u8 w.heap.size 5 i0 1 rfl (.tmp 13) (.tmp 20) _ rfl Try.underlying22 Hi.out Hz0.out Hz1.out Hz2.out rfl hoA rfl (RdI.lit .u8 wr [y % 2] 5) (by omega) (by omega) hbA.size ?_)
                   intro A2 d2 w2 hown hg hat)
      go_roundg p
      case rel => exact ⟨k + 1, d2, A2, by have := HK.out; omega, rfl, rfl, by rw [HS.out]; exact hown, hbA.grown hg hbA.size fun q hq => (ho.2.lt hq).1⟩
      case measure => omega
    · obtain rfl : gk = 0 := by omega
      have HK := Lib.hid hk
      clear hlt hk
      go_wp2
      go_ret
      have hk := HK.out
      obtain rfl : n = k := by omega
      have e : (hiB v n).take n = hiB v n := List.take_of_length_le (by rw [hiB_length]; omega)
      rw [e] at ho
      exact ⟨A, n, d, rfl, ho, hb⟩
set_option maxRecDepth 100000 in
set_option maxHeartbeats 1600000 in
theorem flen_any (w : World) (N : Nat) (h3 : 3 ≤ N) (h258 : N ≤ 258) : Calls Try.prog 16 #[.int .i64 N] w fun e w' => ∃ j v, j < 29 ∧ v < 2 ^ lE j ∧ lB j + v = N ∧ MkPost w (lenC j ++ ofN v (lE j)) e w' := by
  obtain ⟨i0, hi, hz0, hz1, hz2⟩ := info_parts fbyte_info
  have Hi := Lib.hid hi
  have Hz0 := Lib.hid hz0
  have Hz1 := Lib.hid hz1
  have Hz2 := Lib.hid hz2
  clear hi hz0 hz1 hz2
  have HC := Lib.hid (rlenCode_any N w)
  go_enter Try.func16, Try.ntmps16
  go_wp2_with fail
  refine HC.out.mono ?_
  rintro e w1 ⟨⟨v, rfl, hv⟩, rfl⟩
  rcases hv with ⟨h, _⟩ | ⟨-, j, hj, rfl⟩
  · omega
  have hjl := hj.1
  have hj2 := hj.2.1
  have hvl := hj.val_l (by omega)
  obtain ⟨x, hx⟩ : ∃ x : Nat, (N : Int) - ((lB j : Nat) : Int) = (x : Int) := ⟨((N : Int) - ((lB j : Nat) : Int)).toNat, by omega⟩
  obtain ⟨E, hE⟩ : ∃ E, lE j = E := ⟨_, rfl⟩
  obtain ⟨C, hC⟩ : ∃ C, 257 + (j : Int) = C := ⟨_, rfl⟩
  rw [hx] at hvl
  have hx2 : x < 2 ^ lE j := by omega
  have hsum : lB j + x = N := by omega
  have hEb : E ≤ 5 := by rw [← hE]; have : ∀ j, j ≤ 28 → lE j ≤ 5 := by decide
                         exact this j hjl
  have hxN : (x : Int) ≤ 258 ∧ (0 : Int) ≤ x := by omega
  have HQ : Hid (∀ e w', MkPost w (lenC j ++ ofN x E) e w' → ∃ j v, j < 29 ∧ v < 2 ^ lE j ∧ lB j + v = N ∧ MkPost w (lenC j ++ ofN v (lE j)) e w') := fun e w' h => ⟨j, x, by omega, hx2, hsum, by rw [hE]; exact h⟩
  have hCb : 257 ≤ C ∧ C ≤ 285 := by omega
  have hof := fun W => of_any W (x : Int) E (by omega) (by omega)
  have HOF := Lib.hid hof
  rw [hx, hE, hC]
  have hh7 : Calls Try.prog 31 #[.int .i64 (C - 256), .int .i64 7] w (MkPost w (hiB (C - 256) 7)) := high_any w (C - 256) 7 (by omega) (by decide)
  have HH7 := Lib.hid hh7
  have hEI : (E : Int) ≤ 5 ∧ (0 : Int) ≤ E := by omega
  by_cases h23 : 23 ≤ j
  · have hc280 : (280 : Int) ≤ C := by omega
    have hh8 : ∀ W, Calls Try.prog 31 #[.int .i64 (C - 280 + 192), .int .i64 8] W (MkPost W (hiB (C - 280 + 192) 8)) := fun W => high_any W (C - 280 + 192) 8 (by omega) (by decide)
    have HH8 := Lib.hid hh8
    have HL : Hid (hiB (C - 280 + 192) 8 = lenC j) := by
      show _ = _
      unfold lenC
      rw [if_pos h23, ← hC]
      congr 1; omega
    clear hC hE hx hj hj2 hvl hsum hx2 hof hh7 hh8 h3 h258 hEb h23 hjl
    go_wp2_with fail
    refine HH7.out.mono ?_
    rintro e w2 ⟨A1, n1, c1, rfl, ho1, hb1⟩
    go_wp2_with fail
    refine (HH8.out _).mono ?_
    rintro e w3 ⟨A2, n2, c2, rfl, ho2, hb2⟩
    have hb3 := hb1.trans (hb2.mono hb1.size)
    go_wp2_with fail
    refine (HOF.out _).mono ?_
    rintro e w4 ⟨A3, n3, c3, rfl, ho3, hb4⟩
    have ho2' := (ho2.keeps hb4).more (b1 := w.heap.size) hb1.size
    have hn2 : n2 ≤ 8 := by rw [ho2.1, hiB_length]; omega
    have hn3 : n3 ≤ 13 := by rw [ho3.1, ofN_length]; omega
    have hb5 := hb3.trans (hb4.mono hb3.size)
    go_wp2_with (at_builtin; (refine wpList_app .u8 w.heap.size 5 i0 1 rfl (.tmp 22) (.tmp 26) _ rfl Try.underlying22 Hi.out Hz0.out Hz1.out Hz2.out rfl ho2' rfl ho3.rd (by omega) (by omega) hb5.size ?_)
                 intro A4 d4 w5 hown4 hg4 hat4)
    go_ret
    refine HQ.out _ _ ⟨A4, n2 + n3, d4, rfl, by rw [← HL.out]; exact hown4, hb5.grown hg4 hb5.size fun q hq => (ho2'.2.lt hq).1⟩
  · have hc280 : ¬ (280 : Int) ≤ C := by omega
    have HL : Hid (hiB (C - 256) 7 = lenC j) := by
      show _ = _
      unfold lenC
      rw [if_neg h23, ← hC]
      congr 1; omega
    clear hC hE hx hj hj2 hvl hsum hx2 hof hh7 h3 h258 hEb h23 hjl
    go_wp2_with fail
    refine HH7.out.mono ?_
    rintro e w2 ⟨A2, n2, c2, rfl, ho2, hb2⟩
    go_wp2_with fail
    refine (HOF.out _).mono ?_
    rintro e w4 ⟨A3, n3, c3, rfl, ho3, hb4⟩
    have ho2' := ho2.keeps hb4
    have hn2 : n2 ≤ 8 := by rw [ho2.1, hiB_length]; omega
    have hn3 : n3 ≤ 13 := by rw [ho3.1, ofN_length]; omega
    have hb5 := hb2.trans (hb4.mono hb2.size)
    go_wp2_with (at_builtin; (refine wpList_app .u8 w.heap.size 5 i0 1 rfl (.tmp 22) (.tmp 26) _ rfl Try.underlying22 Hi.out Hz0.out Hz1.out Hz2.out rfl ho2' rfl ho3.rd (by omega) (by omega) hb5.size ?_)
                 intro A4 d4 w5 hown4 hg4 hat4)
    go_ret
    refine HQ.out _ _ ⟨A4, n2 + n3, d4, rfl, by rw [← HL.out]; exact hown4, hb5.grown hg4 hb5.size fun q hq => (ho2'.2.lt hq).1⟩
set_option maxRecDepth 100000 in
set_option maxHeartbeats 1600000 in
theorem fdist_any (w : World) (N : Nat) (h3 : 1 ≤ N) (h258 : N ≤ 32768) : Calls Try.prog 17 #[.int .i64 N] w fun e w' => ∃ j v, j < 30 ∧ v < 2 ^ dE j ∧ dB j + v = N ∧ MkPost w (hiB (j : Int) 5 ++ ofN v (dE j)) e w' := by
  obtain ⟨i0, hi, hz0, hz1, hz2⟩ := info_parts fbyte_info
  have Hi := Lib.hid hi
  have Hz0 := Lib.hid hz0
  have Hz1 := Lib.hid hz1
  have Hz2 := Lib.hid hz2
  clear hi hz0 hz1 hz2
  have HC := Lib.hid (rdistCode_any N w)
  go_enter Try.func17, Try.ntmps17
  go_wp2_with fail
  refine HC.out.mono ?_
  rintro e w1 ⟨⟨v, rfl, hv⟩, rfl⟩
  rcases hv with ⟨h, _⟩ | ⟨-, j, hj, rfl⟩
  · omega
  have hjl := hj.1
  have hj2 := hj.2.1
  have hvl := hj.val_d (by omega)
  obtain ⟨x, hx⟩ : ∃ x : Nat, (N : Int) - ((dB j : Nat) : Int) = (x : Int) := ⟨((N : Int) - ((dB j : Nat) : Int)).toNat, by omega⟩
  obtain ⟨E, hE⟩ : ∃ E, dE j = E := ⟨_, rfl⟩
  obtain ⟨C, hC⟩ : ∃ C, (0 : Int) + (j : Int) = C := ⟨_, rfl⟩
  rw [hx] at hvl
  have hx2 : x < 2 ^ dE j := by omega
  have hsum : dB j + x = N := by omega
  have hEb : E ≤ 13 := by rw [← hE]; have : ∀ j, j ≤ 29 → dE j ≤ 13 := by decide
                          exact this j hjl
  have hxN : (x : Int) ≤ 32768 ∧ (0 : Int) ≤ x := by omega
  have HQ : Hid (∀ e w', MkPost w (hiB C 5 ++ ofN x E) e w' → ∃ j v, j < 30 ∧ v < 2 ^ dE j ∧ dB j + v = N ∧ MkPost w (hiB (j : Int) 5 ++ ofN v (dE j)) e w') := fun e w' h => ⟨j, x, by omega, hx2, hsum, by rw [hE, show (j : Int) = C by omega]; exact h⟩
  have hCb : 0 ≤ C ∧ C ≤ 29 := by omega
  have hof := fun W => of_any W (x : Int) E (by omega) (by omega)
  have HOF := Lib.hid hof
  rw [hx, hE, hC]
  have hh7 : Calls Try.prog 31 #[.int .i64 C, .int .i64 5] w (MkPost w (hiB C 5)) := high_any w C 5 (by omega) (by decide)
  have HH7 := Lib.hid hh7
  have hEI : (E : Int) ≤ 13 ∧ (0 : Int) ≤ E := by omega
  clear hC hE hx hj hj2 hvl hsum hx2 hof hh7 h3 h258 hEb hjl
  go_wp2_with fail
  refine HH7.out.mono ?_
  rintro e w2 ⟨A2, n2, c2, rfl, ho2, hb2⟩
  go_wp2_with fail
  refine (HOF.out _).mono ?_
  rintro e w4 ⟨A3, n3, c3, rfl, ho3, hb4⟩
  have ho2' := ho2.keeps hb4
  have hn2 : n2 ≤ 8 := by rw [ho2.1, hiB_length]; omega
  have hn3 : n3 ≤ 13 := by rw [ho3.1, ofN_length]; omega
  have hb5 := hb2.trans (hb4.mono hb2.size)
  go_wp2_with (at_builtin; (refine wpList_app .u8 w.heap.size 5 i0 1 rfl (.tmp 13) (.tmp 17) _ rfl Try.underlying22 Hi.out Hz0.out Hz1.out Hz2.out rfl ho2' rfl ho3.rd (by omega) (by omega) hb5.size ?_)
               intro A4 d4 w5 hown4 hg4 hat4)
  go_ret
  refine HQ.out _ _ ⟨A4, n2 + n3, d4, rfl, hown4, hb5.grown hg4 hb5.size fun q hq => (ho2'.2.lt hq).1⟩
end Go.Proofs.Ytoegpffdbfkcpaa
