/-
  The walk of JoinAdler.
-/
import Derived.Test.YtekdhomjeckfeaaProg
import Derived.Test.YtekdhomjeckfeaaMat
namespace Go.Proofs.Ytekdhomjeckfeaa
open Go.RowKit
set_option linter.unusedVariables false

def joinLow (x p : Int) : Int := (x + p + 65521 - 1) % 65521
def joinHigh (y q x n : Int) : Int := (y + q + n % 65521 * ((x + 65521 - 1) % 65521)) % 65521
def joinA (a b n : Int) : Int := joinHigh (highH a) (highH b) (lowH a) n * 65536 + joinLow (lowH a) (lowH b)
theorem joinHigh_bd (y q x n : Int) : 0 ≤ joinHigh y q x n ∧ joinHigh y q x n < 65521 := by unfold joinHigh; omega
theorem joinLow_bd (x p : Int) : 0 ≤ joinLow x p ∧ joinLow x p < 65521 := by unfold joinLow; omega

set_option maxHeartbeats 1000000 in
theorem joinAdler_any (a b : Int) (n : Nat) (w : World) (ha : 0 ≤ a ∧ a < 4294967296) (hb : 0 ≤ b ∧ b < 4294967296) (hn : (n : Int) ≤ 1000000) :
    Calls Try.prog 14 #[.int .u32 a, .int .u32 b, .int .i64 n] w fun e w' => e = .returned (.int .u32 (joinA a b n)) ∧ w = w' := by
  have b1 : 0 ≤ lowH a ∧ lowH a < 65521 := by unfold lowH; omega
  have b2 : 0 ≤ highH a ∧ highH a < 65521 := by unfold highH; omega
  have b3 : 0 ≤ lowH b ∧ lowH b < 65521 := by unfold lowH; omega
  have b4 : 0 ≤ highH b ∧ highH b < 65521 := by unfold highH; omega
  have hn0 : (0 : Int) ≤ (n : Int) := by omega
  obtain ⟨x, hx⟩ : ∃ x, lowH a = x := ⟨_, rfl⟩
  obtain ⟨y, hy⟩ : ∃ x, highH a = x := ⟨_, rfl⟩
  obtain ⟨p, hp⟩ : ∃ x, lowH b = x := ⟨_, rfl⟩
  obtain ⟨q, hq⟩ : ∃ x, highH b = x := ⟨_, rfl⟩
  rw [hx] at b1
  rw [hy] at b2
  rw [hp] at b3
  rw [hq] at b4
  have HX := Lib.hid hx
  have HY := Lib.hid hy
  have HP := Lib.hid hp
  have HQ := Lib.hid hq
  clear hx hy hp hq
  have hL := joinLow_bd x p
  have hH := joinHigh_bd y q x n
  have hor := or16 hH hL
  have hbig : 0 ≤ joinHigh y q x n * 65536 + joinLow x p ∧ joinHigh y q x n * 65536 + joinLow x p ≤ 4294967295 := by omega
  have HE : Hid (joinHigh y q x n * 65536 + joinLow x p = joinA a b n) := by show _ = _; unfold joinA; rw [HX.out, HY.out, HP.out, HQ.out]
  obtain ⟨L, hLe⟩ : ∃ L, joinLow x p = L := ⟨_, rfl⟩
  obtain ⟨H, hHe⟩ : ∃ H, joinHigh y q x n = H := ⟨_, rfl⟩
  rw [hLe] at hL hor hbig HE
  rw [hHe] at hH hor hbig HE
  obtain ⟨m, hm⟩ : ∃ m : Int, (x + 65521 - 1) % 65521 = m := ⟨_, rfl⟩
  obtain ⟨r, hr⟩ : ∃ r : Int, (n : Int) % 65521 = r := ⟨_, rfl⟩
  have hmb : 0 ≤ m ∧ m < 65521 := by omega
  have hrb : 0 ≤ r ∧ r < 65521 := by omega
  have hrm : 0 ≤ r * m ∧ r * m ≤ 4293001441 := by
    refine ⟨Int.mul_nonneg hrb.1 hmb.1, ?_⟩
    calc r * m ≤ 65521 * 65521 := Int.mul_le_mul (by omega) (by omega) hmb.1 (by omega)
      _ = 4293001441 := by rfl
  have e1 : (x + p + 65521 - 1) % 65521 = L := hLe
  have e2 : (y + q + r * m) % 65521 = H := by rw [← hHe, ← hr, ← hm]; rfl
  clear hLe hHe
  go_enter Try.func14, Try.ntmps14
  go_wp2_with fail
  refine (halves_any _ _ ha).mono ?_
  rintro e w1 ⟨rfl, rfl⟩
  rw [HX.out, HY.out]
  go_wp2_with fail
  refine (halves_any _ _ hb).mono ?_
  rintro e w1 ⟨rfl, rfl⟩
  rw [HP.out, HQ.out]
  go_wp2
  go_ret
  exact ⟨ret_int HE.out, rfl⟩
end Go.Proofs.Ytekdhomjeckfeaa
