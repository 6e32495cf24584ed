/-
  The walk of sums.Adler.
-/
import Derived.Test.YtjeedkjgjfbndaaProg
import Derived.Test.YtjeedkjgjfbndaaPk
namespace Go.Proofs.Ytjeedkjgjfbndaa
open Go.RowKit
set_option linter.unusedVariables false

theorem ad_and16 {x : Int} (h : 0 ≤ x ∧ x < 4294967296) : bits .and .u32 x 65535 = x % 65536 := by
  rw [u32_and x 65535 h.1 h.2 (by omega) (by omega)]
  have : x.toNat &&& (65535 : Int).toNat = x.toNat % 65536 := Nat.and_two_pow_sub_one_eq_mod x.toNat 16
  rw [this]; omega
def lowH (s : Int) : Int := s % 65536 % 65521
def highH (s : Int) : Int := s / 65536 % 65521
theorem halves_any (x : Int) (w : World) (h : 0 ≤ x ∧ x < 4294967296) :
    Calls Try.prog 22 #[.int .u32 x] w fun e w' => e = .returned (.tuple #[.int .u64 (lowH x), .int .u64 (highH x)]) ∧ w = w' := by
  have h0 := ad_and16 h
  have H1 := Lib.hid (show x % 65536 % 65521 = lowH x from rfl)
  go_enter Try.func22, Try.ntmps22
  go_wp2
  go_ret2
  exact ⟨rfl, rfl⟩
theorem ad_or16 {y x : Int} (h : 0 ≤ y ∧ y < 65521) (h' : 0 ≤ x ∧ x < 65521) : bits .or .u64 (y * 65536) x = y * 65536 + x := by
  rw [u64_or (y * 65536) x (by omega) (by omega) (by omega) (by omega)]
  have e : (y * 65536).toNat = y.toNat <<< 16 := by rw [Nat.shiftLeft_eq]; omega
  rw [e, ← Nat.shiftLeft_add_eq_or_of_lt (show x.toNat < 2 ^ 16 by omega), Nat.shiftLeft_eq]
  omega

set_option maxHeartbeats 1000000 in
theorem adler_any (s : Int) (A : Option Addr) (n c B : Nat) (l : List Int) (w : World) (hr : RdI .u8 w B A n l) (hl : ∀ i, 0 ≤ ix l i ∧ ix l i < 256) (hs : 0 ≤ s ∧ s < 4294967296) (hn : n ≤ 1000000000) :
    Calls Try.prog 17 #[.int .u32 s, .slice A n c] w fun e w' => e = .returned (.int .u32 (adY (lowH s) (highH s) l n * 65536 + adX (lowH s) l n)) ∧ w = w' := by
  have HL := Lib.hid hl
  clear hl
  have b1 : 0 ≤ lowH s ∧ lowH s < 65521 := by unfold lowH; omega
  have b2 : 0 ≤ highH s ∧ highH s < 65521 := by unfold highH; omega
  go_enter Try.func17, Try.ntmps17
  go_wp2_with fail
  refine (halves_any _ _ hs).mono ?_
  rintro e w1 ⟨rfl, rfl⟩
  go_wp2
  go_loop [5, 6, 16] (fun x y i => ∃ (k : Nat) (u v : Int), k ≤ n ∧ i = .int .i64 k ∧ x = .int .u64 u ∧ y = .int .u64 v ∧ 0 ≤ u ∧ u < 65521 ∧ 0 ≤ v ∧ v < 65521 ∧ Hid (u = adX (lowH s) l k) ∧ Hid (v = adY (lowH s) (highH s) l k)) (fun _ _ i => n - (intOf i).toNat)
  case atStart => exact ⟨0, _, _, by omega, rfl, rfl, rfl, b1.1, b1.2, b2.1, b2.2, rfl, rfl⟩
  case round =>
    obtain ⟨k, u, v, hk, rfl, rfl, rfl, hu0, hu1, hv0, hv1, HU, HV⟩ := hrel
    by_cases hlt : k < n
    · obtain ⟨a1, rfl, _, e1⟩ := hr.at_ hlt
      have hcb := HL.out k
      obtain ⟨b, hb⟩ : ∃ b : Int, b = ix l k := ⟨_, rfl⟩
      rw [← hb] at e1 hcb
      have HB := Lib.hid hb
      clear hb
      go_wp2
      go_round
      case rel =>
        have e1 : (u + b) % 65521 = adX (lowH s) l (k + 1) := by show _ = (_ + _) % 65521; rw [HU.out, HB.out]
        refine ⟨k + 1, (u + b) % 65521, (v + (u + b) % 65521) % 65521, by omega, by go_num, rfl, rfl, by omega, by omega, by omega, by omega, e1, ?_⟩
        show _ = (_ + _) % 65521
        rw [← e1, HV.out]
      case measure => simp [intOf]; omega
    · obtain rfl : n = k := by omega
      have H1 := ad_or16 ⟨hv0, hv1⟩ ⟨hu0, hu1⟩
      go_wp2
      go_ret
      exact ⟨ret_int (by rw [HU.out, HV.out]), rfl⟩

end Go.Proofs.Ytjeedkjgjfbndaa
