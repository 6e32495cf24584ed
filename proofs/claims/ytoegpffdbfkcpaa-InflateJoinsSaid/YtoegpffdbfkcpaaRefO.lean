/-
  The walk of the reference's Of.
-/
import Derived.Test.YtoegpffdbfkcpaaProg
import Derived.Test.YtoegpffdbfkcpaaRefB
namespace Go.Proofs.Ytoegpffdbfkcpaa
open Go.RowKit
set_option linter.unusedVariables false

def OfRel (w : World) (V : Int) (N : Nat) (v o i : Value) (wr : World) : Prop :=
  ∃ (k d : Nat) (A : Option Addr) (x : Int), k ≤ N ∧ i = .int .i64 k ∧ v = .int .u32 x ∧ 0 ≤ x ∧ x < 4294967296 ∧ Hid (x = V / 2 ^ k) ∧ o = .slice A k d ∧ OwnI .u8 wr w.heap.size 5 A k d (ofN V k) ∧ Below w.heap.size w wr
set_option maxHeartbeats 1600000 in
theorem of_any (w : World) (V : Int) (N : Nat) (hV : 0 ≤ V ∧ V < 4294967296) (hN : (N : Int) ≤ 32) : Calls Try.prog 14 #[.int .u32 V, .int .i64 N] w (MkPost w (ofN V N)) := by
  obtain ⟨i0, hi, hz0, hz1, hz2⟩ := info_parts fbyte_info
  have Hi := Lib.hid hi
  have Hz0 := Lib.hid hz0
  have Hz1 := Lib.hid hz1
  have Hz2 := Lib.hid hz2
  clear hi hz0 hz1 hz2
  go_enter Try.func14, Try.ntmps14
  go_wp2
  go_loopw [0, 5, 6] (OfRel w V N) (fun _ _ i _ => N - (intOf i).toNat)
  case atStart => exact ⟨0, 0, none, V, Nat.zero_le _, rfl, rfl, hV.1, hV.2, (by show V = V / 2 ^ 0; simp), rfl, OwnI.nil_, Below.refl _ _⟩
  case round =>
    obtain ⟨k, d, A, x, hk, rfl, rfl, hx0, hx1, HX, rfl, ho, hb⟩ := hrel
    by_cases hlt : k < N
    · have hkI : (k : Int) < (N : Int) ∧ (0 : Int) ≤ k := by omega
      have hoA := ho.alloc (.cells #[.int .u8 (x % 2)] 5)
      have hbA := hb.alloc hb.size (.cells #[.int .u8 (x % 2)] 5)
      have HS : Hid (ofN V (k + 1) = ofN V k ++ [x % 2]) := by show _ = _; rw [ofN_succ, HX.out]
      have HX2 : Hid (x / 2 = V / 2 ^ (k + 1)) := by show _ = _; rw [HX.out, Int.pow_succ, Int.ediv_ediv_of_nonneg (Int.le_of_lt (two_pos _))]
      go_wp2_with (at_builtin; (refine wpList_app .u8 w.heap.size 5 i0 1 rfl (.tmp 12) (.tmp 16) _ rfl Try.underlying22 Hi.out Hz0.out Hz1.out Hz2.out rfl hoA rfl (RdI.lit .u8 wr [x % 2] 5) (by omega) (by omega) hbA.size ?_)
                   intro A2 d2 w2 hown hg hat)
      go_roundw
      case rel => exact ⟨k + 1, d2, A2, x / 2, hlt, by go_num, rfl, by omega, by omega, HX2, rfl, by rw [HS.out]; exact hown, hbA.grown hg hbA.size fun q hq => (ho.2.lt hq).1⟩
      case measure => simp [intOf]; omega
    · obtain rfl : N = k := by omega
      go_wp2
      go_ret
      exact ⟨A, N, d, rfl, ho, hb⟩
end Go.Proofs.Ytoegpffdbfkcpaa
