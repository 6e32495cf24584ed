/-
  The walks of bits.Reader: Peek, Get.
-/
import Derived.Test.YtjeedkjgjfbndaaProg
import Derived.Test.YtjeedkjgjfbndaaRdr
namespace Go.Proofs.Ytjeedkjgjfbndaa
open Go.RowKit
set_option linter.unusedVariables false

theorem peek_nil (w : World) (V : Value) : Calls Try.prog 49 #[.pointer none, V] w fun e w' => e = .returned (.tuple #[.int .u32 0, .bool false]) ∧ w = w' := by
  go_enter Try.func49, Try.ntmps49
  go_wp2
  go_ret2
  exact ⟨rfl, rfl⟩
set_option maxHeartbeats 1600000 in
theorem peek_not (w : World) (b0 g n c a : Nat) (A : Option Addr) (B : List Int) (hw : Rdr w b0 g A n c B a) (hlen : B.length ≤ 1000000000000) (N : Int) (hN : N < 0 ∨ 32 < N ∨ ((rb B a).length : Int) < N) :
    Calls Try.prog 49 #[.pointer (some ⟨g, 0, none⟩), .int .i64 N] w fun e w' => e = .returned (.tuple #[.int .u32 0, .bool false]) ∧ ∃ q, w' = w.drewN q := by
  rw [rb_length, ← hw.n_eq] at hN
  have hN' : N < 0 ∨ (¬ N < 0 ∧ 32 < N) ∨ (¬ N < 0 ∧ ¬ 32 < N ∧ ((8 * n - a : Nat) : Int) < N) := by omega
  clear hN
  obtain ⟨q, hq⟩ : ∃ q : Nat, 8 * n - a = q := ⟨_, rfl⟩
  have HQ := Lib.hid hq
  rw [hq] at hN'
  clear hq
  rcases hN' with h | ⟨h, h1⟩ | ⟨h, h1, h2⟩
  · go_enter Try.func49, Try.ntmps49
    go_wp2
    go_ret2
    exact ⟨rfl, 0, rfl⟩
  · go_enter Try.func49, Try.ntmps49
    go_wp2
    go_ret2
    exact ⟨rfl, 0, rfl⟩
  · go_enter Try.func49, Try.ntmps49
    go_wp2_with fail
    refine (rdrLeft_any _ _ _ _ _ _ _ _ hw hlen).mono ?_
    rintro e w1 ⟨rfl, q1, rfl⟩
    rw [HQ.out]
    go_wp2
    go_ret2
    exact ⟨rfl, q1, rfl⟩

def PeekRel (w : World) (B : List Int) (a0 J : Nat) (v at_ k : Value) (wr : World) : Prop :=
  ∃ j q : Nat, j ≤ J ∧ k = .int .i64 ((8 * j : Nat) : Int) ∧ at_ = .int .i64 ((a0 + j : Nat) : Int) ∧ v = .int .u64 (gath B a0 j) ∧ wr = w.drewN q

set_option maxRecDepth 100000 in
set_option maxHeartbeats 4000000 in
theorem peek_ok (w : World) (b0 g n c a : Nat) (A : Option Addr) (B : List Int) (hw : Rdr w b0 g A n c B a) (hlen : B.length ≤ 1000000000000) (N : Nat) (hN : (N : Int) ≤ 32) (hNl : N ≤ (rb B a).length) :
    Calls Try.prog 49 #[.pointer (some ⟨g, 0, none⟩), .int .i64 N] w fun e w' => e = .returned (.tuple #[.int .u32 (numI ((rb B a).take N)), .bool true]) ∧ ∃ q, w' = w.drewN q := by
  have c0 := hw.cell.cell (i := 0) (by omega)
  have c1 := hw.cell.cell (i := 1) (by omega)
  unfold rf at c0 c1
  have hn := hw.n_eq
  have hle := hw.le
  rw [rb_length, ← hn] at hNl
  obtain ⟨r, hr⟩ : ∃ r : Nat, a % 8 = r := ⟨_, rfl⟩
  obtain ⟨a0, ha0⟩ : ∃ a0 : Nat, a / 8 = a0 := ⟨_, rfl⟩
  have hrI : (a : Int) % 8 = (r : Int) := by omega
  have ha0I : (a : Int) / 8 = (a0 : Int) := by omega
  have hrb : (r : Int) < 8 ∧ (0 : Int) ≤ r := by omega
  have hab : (0 : Int) ≤ a ∧ (a : Int) ≤ 8000000000000 ∧ (0 : Int) ≤ N := by omega
  have hN0 : ¬ (N : Int) < 0 ∧ ¬ 32 < (N : Int) := by omega
  obtain ⟨J, hJ⟩ : ∃ J : Nat, (N + r + 7) / 8 = J := ⟨_, rfl⟩
  have hJ5 : J ≤ 5 ∧ N + r ≤ 8 * J ∧ a0 + J ≤ n ∧ 8 * J < N + r + 8 := by omega
  have HJ5 := Lib.hid hJ5
  obtain ⟨q, hq⟩ : ∃ q : Nat, 8 * n - a = q := ⟨_, rfl⟩
  have hqN : ((q : Int) < (N : Int)) = False := eq_false (by omega)
  have hqN2 : (q < N) = False := eq_false (by omega)
  have HQ := Lib.hid hq
  have haa : a = 8 * a0 + r := by omega
  have HAA := Lib.hid haa
  have hq1 : IntKind.i64.wrap ((N : Int) + (r : Int)) = (N : Int) + (r : Int) := by rw [IntWalk.i64_in _ (by omega)]
  have hfin : Hid (gath B a0 J / 2 ^ r % 2 ^ N = numI ((rb B a).take N)) := by show _ = _; rw [haa]; exact gath_end B (by omega)
  have hnI : (n : Int) ≤ 1000000000000 := by omega
  have HN := Lib.hid hn
  clear hn hle hNl hr ha0 hJ hJ5 hq haa
  go_enter Try.func49, Try.ntmps49
  go_wp2_with fail
  refine (rdrLeft_any _ _ _ _ _ _ _ _ hw hlen).mono ?_
  rintro e w1 ⟨rfl, q1, rfl⟩
  rw [HQ.out]
  go_wp2
  go_quiet (fail)
  go_wp2
  go_loopw [6, 7, 8] (PeekRel w B a0 J) (fun _ _ k _ => 40 + 1 - (intOf k).toNat)
  case atStart => exact ⟨0, q1 + nq, Nat.zero_le _, rfl, rfl, by rw [gath_zero], World.drewN_drewN ..⟩
  case round =>
    obtain ⟨j, q2, hj, rfl, rfl, hv, rfl⟩ := hrel
    obtain ⟨g0, g1, g2⟩ := gath_bd B a0 (j := j) (by have := HJ5.out; omega)
    obtain ⟨X, hX⟩ : ∃ X, gath B a0 j = X := ⟨_, rfl⟩
    rw [hX] at g0 g1 g2 hv
    subst hv
    have HX := Lib.hid hX
    by_cases hlt : j < J
    · have hjI : ((8 * j : Nat) : Int) < (N : Int) + (r : Int) := by have := HJ5.out; omega
      have hjn : a0 + j < n := by have := HJ5.out; omega
      have hjN : (0 : Int) ≤ ((8 * j : Nat) : Int) ∧ ((8 * j : Nat) : Int) ≤ 32 ∧ (0 : Int) ≤ ((a0 + j : Nat) : Int) ∧ ((a0 + j : Nat) : Int) < (n : Int) := by have := HJ5.out; omega
      have hst := gath_succ B a0 (j := j) (by rw [← HN.out]; exact hjn) hw.by_
      obtain ⟨b, hb⟩ : ∃ b, ix B (a0 + j) = b := ⟨_, rfl⟩
      have hbb := ix_bd hw.by_ (a0 + j)
      rw [hb] at hst hbb
      obtain ⟨g5, rfl⟩ := hw.own.2.addr (by omega)
      have hcap := hw.own.2.capLe
      have c5 := hw.own.2.cell (i := a0 + j) (by omega)
      rw [hb] at c5
      have c5q : (w.drewN q2).cell? ⟨g5, a0 + j, none⟩ = some (.int .u8 b) := c5
      obtain ⟨b', hgx1, hgx2⟩ := gath_bd B a0 (j := j + 1) (by have := HJ5.out; omega)
      rw [hst, hX] at hgx2
      have hp0 := two_pos (8 * j)
      have hbp : 0 ≤ b * 2 ^ (8 * j) := Int.mul_nonneg hbb.1 (by omega)
      have e1 : IntKind.u64.wrap (b * 2 ^ (8 * j)) = b * 2 ^ (8 * j) := by rw [IntKind.wrap_u64]; exact Int.emod_eq_of_lt hbp (by omega)
      have e2 : bits .or .u64 X (b * 2 ^ (8 * j)) = gath B a0 (j + 1) := by rw [hst, hX]; exact or_high g0 g1 hbb.1 (by omega)
      obtain ⟨Y, hY⟩ : ∃ Y, gath B a0 (j + 1) = Y := ⟨_, rfl⟩
      rw [hY] at e2
      have HY := Lib.hid hY
      clear hX hst hb hY hgx1 hgx2 hp0 hbp b'
      go_wp2
      go_roundw
      case rel => exact ⟨j + 1, q2, hlt, by rw [show 8 * (j + 1) = 8 * j + 8 by omega]; go_num, by go_num, by rw [HY.out], rfl⟩
      case measure => simp [intOf]; omega
    · obtain rfl : J = j := by omega
      have hjI : ¬ ((8 * J : Nat) : Int) < (N : Int) + (r : Int) := by have := HJ5.out; omega
      have hp32 : (2 : Int) ^ N ≤ 4294967296 := by have := pow_mono2 (show N ≤ 32 by omega); simpa using this
      have hp0 := two_pos N
      have hq0 := two_pos r
      have e1 : IntKind.u64.wrap (2 ^ N) = 2 ^ N := by rw [IntKind.wrap_u64]; exact Int.emod_eq_of_lt (by omega) (by omega)
      have e1b : IntKind.u64.wrap (2 ^ N - 1) = 2 ^ N - 1 := by rw [IntKind.wrap_u64]; exact Int.emod_eq_of_lt (by omega) (by omega)
      have hX0 : 0 ≤ X / 2 ^ r := Int.ediv_nonneg g0 (by omega)
      have hX1 : X / 2 ^ r ≤ X := Int.ediv_le_self _ g0
      have e2 : bits .and .u64 (X / 2 ^ r) (2 ^ N - 1) = X / 2 ^ r % 2 ^ N := and_low hX0 (by omega) (by omega)
      have hY0 := Int.emod_nonneg (X / 2 ^ r) (b := 2 ^ N) (by omega)
      have hY1 := Int.emod_lt_of_pos (X / 2 ^ r) hp0
      have hf := hfin.out
      rw [HX.out] at hf
      obtain ⟨Y, hY⟩ : ∃ Y, X / 2 ^ r % 2 ^ N = Y := ⟨_, rfl⟩
      rw [hY] at e2 hY0 hY1 hf
      have e3 : IntKind.u32.wrap Y = Y := by rw [IntKind.wrap_u32]; exact Int.emod_eq_of_lt (by omega) (by omega)
      have HF := Lib.hid hf
      clear hf hY hp32 hp0 hq0
      go_wp2
      go_quiet (fail)
      go_wp2
      go_ret2
      rw [← HF.out]
      exact ⟨rfl, _, World.drewN_drewN ..⟩

theorem get_nil (w : World) (V : Value) : Calls Try.prog 37 #[.pointer none, V] w fun e w' => e = .returned (.tuple #[.int .u32 0, .bool false]) ∧ w = w' := by
  go_enter Try.func37, Try.ntmps37
  go_wp2_with fail
  refine (peek_nil _ _).mono ?_
  rintro e w1 ⟨rfl, rfl⟩
  go_wp2
  go_ret2
  exact ⟨rfl, rfl⟩
theorem get_not (w : World) (b0 g n c a : Nat) (A : Option Addr) (B : List Int) (hw : Rdr w b0 g A n c B a) (hlen : B.length ≤ 1000000000000) (N : Int) (hN : N < 0 ∨ 32 < N ∨ ((rb B a).length : Int) < N) :
    Calls Try.prog 37 #[.pointer (some ⟨g, 0, none⟩), .int .i64 N] w fun e w' => e = .returned (.tuple #[.int .u32 0, .bool false]) ∧ ∃ q, w' = w.drewN q := by
  go_enter Try.func37, Try.ntmps37
  go_wp2_with fail
  refine (peek_not _ _ _ _ _ _ _ _ hw hlen N hN).mono ?_
  rintro e w1 ⟨rfl, q1, rfl⟩
  go_wp2
  go_ret2
  exact ⟨rfl, q1, rfl⟩
set_option maxHeartbeats 1600000 in
theorem get_ok (w : World) (b0 g n c a : Nat) (A : Option Addr) (B : List Int) (hw : Rdr w b0 g A n c B a) (hlen : B.length ≤ 1000000000000) (N : Nat) (hN : (N : Int) ≤ 32) (hNl : N ≤ (rb B a).length) :
    Calls Try.prog 37 #[.pointer (some ⟨g, 0, none⟩), .int .i64 N] w fun e w' => e = .returned (.tuple #[.int .u32 (numI ((rb B a).take N)), .bool true]) ∧ Rdr w' b0 g A n c B (a + N) ∧ Chg w w' (fun k => k = g) := by
  have ha := hNl
  rw [rb_length] at ha
  have hle := hw.le
  have haI : (0 : Int) ≤ a ∧ (a : Int) ≤ 8000000000000 ∧ (0 : Int) ≤ N := by omega
  have han : a + N ≤ 8 * B.length := by omega
  have c1 := hw.cell.cell (i := 1) (by omega)
  have z1 := hw.cell.frozen' (i := 1) (by omega)
  unfold rf at c1
  obtain ⟨V, hV⟩ : ∃ V, numI ((rb B a).take N) = V := ⟨_, rfl⟩
  have HV := Lib.hid hV
  clear ha hle hV
  go_enter Try.func37, Try.ntmps37
  go_wp2_with fail
  refine (peek_ok _ _ _ _ _ _ _ _ hw hlen N hN hNl).mono ?_
  rintro e w1 ⟨rfl, q1, rfl⟩
  rw [HV.out]
  have hwq := hw.drewN q1
  go_wp2
  go_ret2
  obtain ⟨r1, r2⟩ := hwq.move han (v := .int .i64 ((a : Int) + (N : Int))) (by simp)
  rw [HV.out]
  exact ⟨rfl, r1, ((Chg.refl w _).drewN q1).trans r2 fun k hk => .inl hk⟩
end Go.Proofs.Ytjeedkjgjfbndaa
