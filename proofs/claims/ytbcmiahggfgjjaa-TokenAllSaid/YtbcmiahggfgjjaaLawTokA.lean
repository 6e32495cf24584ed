import Derived.Test.YtbcmiahggfgjjaaProg
import Derived.Test.YtbcmiahggfgjjaaSound
namespace Go.Proofs.Ytbcmiahggfgjjaa
open Go.RowKit
set_option linter.unusedVariables false

theorem bda_u16 {x : Int} (h : (Lit.int .u16 x).wf = true) : 0 ≤ x ∧ x ≤ 65535 := by
  simp [Lit.wf, IntKind.min, IntKind.max, IntKind.signed, IntKind.bits] at h
  omega

/-- the answer about a length, taken apart -/
theorem lenCode_in (n : Int) (hn : 3 ≤ n ∧ n ≤ 258) (w : World) : Calls Try.prog 18 #[.int .i64 n] w fun e w' => (∃ (j : Nat) (x q b v : Int), e = .returned (.tuple #[.int .i64 x, .int .i64 q, .int .i64 v]) ∧ j < 29 ∧ x = 257 + (j : Int) ∧ ((lE j : Nat) : Int) = q ∧ ((lB j : Nat) : Int) = b ∧ b + v = n ∧ 0 ≤ v ∧ v < ((2 ^ lE j : Nat) : Int) ∧ lE j ≤ 13 ∧ 0 ≤ b) ∧ w = w' := by
  refine (lenCode_any n w).mono ?_
  rintro e w' ⟨⟨v, rfl, hv⟩, rfl⟩
  refine ⟨?_, rfl⟩
  rcases hv with ⟨h, _⟩ | ⟨_, j, hl, rfl⟩
  · omega
  · have := lB_bd j (by have := hl.1; omega)
    exact ⟨j, _, _, _, _, rfl, by have := hl.1; omega, rfl, rfl, rfl, by omega, by have := hl.2.1; omega, hl.val_l hn.2, by omega, by omega⟩
theorem distCode_in (n : Int) (hn : 1 ≤ n ∧ n ≤ 32768) (w : World) : Calls Try.prog 20 #[.int .i64 n] w fun e w' => (∃ (j : Nat) (x q b v : Int), e = .returned (.tuple #[.int .i64 x, .int .i64 q, .int .i64 v]) ∧ j < 30 ∧ x = 0 + (j : Int) ∧ ((dE j : Nat) : Int) = q ∧ ((dB j : Nat) : Int) = b ∧ b + v = n ∧ 0 ≤ v ∧ v < ((2 ^ dE j : Nat) : Int) ∧ dE j ≤ 13 ∧ 0 ≤ b) ∧ w = w' := by
  refine (distCode_any n w).mono ?_
  rintro e w' ⟨⟨v, rfl, hv⟩, rfl⟩
  refine ⟨?_, rfl⟩
  rcases hv with ⟨h, _⟩ | ⟨_, j, hl, rfl⟩
  · omega
  · have := dB_bd' j (by have := hl.1; omega)
    exact ⟨j, _, _, _, _, rfl, by have := hl.1; omega, rfl, rfl, rfl, by omega, by have := hl.2.1; omega, hl.val_d hn.2, by omega, by omega⟩

theorem sh_lt {v q : Int} {m : Nat} (hm : m ≤ 13) (hq : ((m : Nat) : Int) = q) (hv : v < ((2 ^ m : Nat) : Int)) : v < wrap64 (2 ^ q.toNat) := by
  subst hq
  rw [Int.toNat_natCast]
  have h : ∀ m, m ≤ 13 → wrap64 ((2 : Int) ^ m) = ((2 ^ m : Nat) : Int) := by decide +kernel
  rw [h m hm]
  exact hv
def allRel (w : World) (i : Value) (wr : World) : Prop := ∃ k : Nat, k ≤ 300 ∧ i = .int .i64 k ∧ wr = w
set_option maxRecDepth 100000 in
set_option maxHeartbeats 4000000 in
theorem tokenAll_walk (x : Int) (w : World) (hx : (Lit.int .u16 x).wf = true) :
    Calls Try.prog 8 #[.int .u16 x] w fun e w' => e = .returned (.bool true) ∧ Below w.heap.size w w' := by
  have bx := bda_u16 hx
  clear hx
  obtain ⟨X, rfl⟩ := Int.eq_ofNat_of_zero_le bx.1
  go_enter Try.func8, Try.ntmps8
  go_wp2
  go_loopw [3] (allRel w) (fun i _ => 300 - (intOf i).toNat)
  case atStart => exact ⟨0, by omega, rfl, rfl⟩
  case round =>
    obtain ⟨k, hk, rfl, rfl⟩ := hrel
    by_cases hlt : k < 300
    · have hk0 : (0 : Int) ≤ k ∧ (k : Int) < 300 := by omega
      obtain ⟨nn, hnn⟩ : ∃ nn : Int, 3 + ((X : Int) + (k : Int)) % 256 = nn := ⟨_, rfl⟩
      have hnb : 3 ≤ nn ∧ nn ≤ 258 := by omega
      obtain ⟨dd, hdd⟩ : ∃ dd : Int, 1 + ((X : Int) * 5 + (k : Int) * 131) % 32768 = dd := ⟨_, rfl⟩
      have hdb : 1 ≤ dd ∧ dd ≤ 32768 := by omega
      go_wp2_with fail
      refine (lenCode_in nn hnb wr).mono ?_
      rintro e w1 ⟨⟨j, x, q, b, v, rfl, hj, hx, hq, hb, hs, hv0, hv1, hq13, hb0⟩, rfl⟩
      have HX := Lib.hid hx
      have HQ := Lib.hid hq
      have HB := Lib.hid hb
      have HJ := Lib.hid hj
      have hqI : 0 ≤ q ∧ q ≤ 13 := by omega
      clear hx hq hb hj
      have hvn : ¬ v < 0 := by omega
      have hsh := sh_lt hq13 HQ.out hv1
      have hsh' : decide (wrap64 (2 ^ q.toNat) ≤ v) = false := by simpa using hsh
      clear hv1
      go_wp2_with fail
      refine (lenBase_code j HJ.out x HX.out wr).mono ?_
      rintro e w1 ⟨rfl, rfl⟩
      rw [HB.out, HQ.out]
      go_wp2_with fail
      refine (distCode_in dd hdb wr).mono ?_
      rintro e w1 ⟨⟨j2, x2, q2, b2, v2, rfl, hj2, hx2, hq2, hb2, hs2, hv02, hv12, hq132, hb02⟩, rfl⟩
      have HX2 := Lib.hid hx2
      have HQ2 := Lib.hid hq2
      have HB2 := Lib.hid hb2
      have HJ2 := Lib.hid hj2
      have hqI2 : 0 ≤ q2 ∧ q2 ≤ 13 := by omega
      clear hx2 hq2 hb2 hj2
      have hvn2 : ¬ v2 < 0 := by omega
      have hsh2 := sh_lt hq132 HQ2.out hv12
      have hsh2' : decide (wrap64 (2 ^ q2.toNat) ≤ v2) = false := by simpa using hsh2
      clear hv12
      go_wp2_with fail
      refine (distBase_code j2 HJ2.out x2 HX2.out wr).mono ?_
      rintro e w1 ⟨rfl, rfl⟩
      rw [HB2.out, HQ2.out]
      go_wp2
      go_roundw
      case rel => exact ⟨k + 1, by omega, by go_num, rfl⟩
      case measure => simp [intOf]; omega
    · have hk3 : ¬ (k : Int) < 300 := by omega
      go_wp2_with fail
      refine (answers8_any wr).mono ?_
      rintro e w2 ⟨rfl, hb⟩
      go_wp2
      go_ret
      exact ⟨rfl, hb⟩
end Go.Proofs.Ytbcmiahggfgjjaa
