/-
  The walk of block.FixedLengths.
-/
import Derived.Test.YtckhkkjdibcclaaProg
import Derived.Test.YtckhkkjdibcclaaChg
import Derived.Test.YtckhkkjdibcclaaInfP
namespace Go.Proofs.Ytckhkkjdibcclaa
open Go.RowKit
set_option linter.unusedVariables false
theorem xint_info : (Try.prog.info? 3).map (fun i => (i.zero, i.size, i.bytes)) = some (some (.int .i64 0), 1, 8) := by kernel_rfl
def FixPost (w : World) (e : Ending) (w' : World) : Prop :=
  ∃ A c A' c', e = .returned (.tuple #[.slice A 288 c, .slice A' 32 c']) ∧ OwnI .i64 w' w.heap.size 3 A 288 c fixL ∧ OwnI .i64 w' w.heap.size 3 A' 32 c' fixD ∧ Below w.heap.size w w'
def FixR (w : World) (l i : Value) (wr : World) : Prop := ∃ (k c : Nat) (A : Option Addr), k ≤ 288 ∧ i = .int .i64 k ∧ l = .slice A k c ∧ OwnI .i64 wr w.heap.size 3 A k c (fixL.take k) ∧ Below w.heap.size w wr
def FixS (w : World) (A0 : Option Addr) (n0 c0 : Nat) (l i : Value) (wr : World) : Prop := ∃ (k c : Nat) (A : Option Addr), k ≤ 32 ∧ i = .int .i64 k ∧ l = .slice A k c ∧ OwnI .i64 wr w.heap.size 3 A k c (fixD.take k) ∧ OwnI .i64 wr w.heap.size 3 A0 n0 c0 fixL ∧ (∀ q, blkOf A = some q → blkOf A0 ≠ some q) ∧ Below w.heap.size w wr
theorem fixL_len : fixL.length = 288 := by decide +kernel
theorem fixD_len : fixD.length = 32 := by simp [fixD]
theorem fixL_take {k : Nat} (h : k < 288) : fixL.take (k + 1) = fixL.take k ++ [ix fixL k] := by
  rw [List.take_succ_eq_append_getElem (by rw [fixL_len]; exact h)]
  simp [ix, List.getD_eq_getElem?_getD, List.getElem?_eq_getElem (show k < fixL.length by rw [fixL_len]; exact h)]
theorem fixL_at : ∀ k, k < 288 → ix fixL k = if k < 144 then 8 else if k < 256 then 9 else if k < 280 then 7 else 8 := by decide +kernel
theorem fixD_take {k : Nat} (h : k < 32) : fixD.take (k + 1) = fixD.take k ++ [5] := by
  unfold fixD
  rw [List.take_replicate, List.take_replicate, Nat.min_eq_left (by omega), Nat.min_eq_left (by omega), List.replicate_succ']
set_option maxRecDepth 100000 in
set_option maxHeartbeats 4000000 in
theorem fixed_any (w : World) : Calls Try.prog 13 #[] w (FixPost w) := by
  obtain ⟨i0, hi, hz0, hz1, hz2⟩ := info_parts xint_info
  have Hi := Lib.hid hi
  have Hz0 := Lib.hid hz0
  have Hz1 := Lib.hid hz1
  have Hz2 := Lib.hid hz2
  clear hi hz0 hz1 hz2
  go_enter Try.func13, Try.ntmps13
  go_wp2
  go_loopw [0, 3] (FixR w) (fun _ i _ => 288 - (intOf i).toNat)
  case atStart => exact ⟨0, 0, none, Nat.zero_le _, rfl, rfl, OwnI.nil_, Below.refl _ _⟩
  case round =>
    obtain ⟨k, c, A, hk, rfl, rfl, ho, hb⟩ := hrel
    by_cases hlt : k < 288
    · have hkI : (k : Int) < 288 ∧ (0 : Int) ≤ k := by omega
      have ht := fixL_take hlt
      rw [fixL_at k hlt] at ht
      have hbs := hb.size
      have hcs : (k : Int) < 144 ∨ (¬ (k : Int) < 144 ∧ (280 : Int) ≤ k) ∨ (¬ (k : Int) < 144 ∧ ¬ (280 : Int) ≤ k ∧ (k : Int) < 256) ∨ (¬ (k : Int) < 144 ∧ ¬ (280 : Int) ≤ k ∧ ¬ (k : Int) < 256) := by omega
      rcases hcs with h1 | ⟨h1, h2⟩ | ⟨h1, h2, h3⟩ | ⟨h1, h2, h3⟩
      · rw [if_pos (by omega)] at ht
        have HT := Lib.hid ht
        clear ht
        have hoA := ho.alloc (.cells #[.int .i64 8] 3)
        have hbA := hb.alloc hb.size (.cells #[.int .i64 8] 3)
        go_wp2_with (at_builtin; (refine wpList_app .i64 w.heap.size 3 i0 8 rfl (.tmp 16) (.tmp 17) _ rfl Try.underlying25 Hi.out Hz0.out Hz1.out Hz2.out rfl hoA rfl (RdI.lit .i64 wr [8] 3) (by omega) (by omega) hbA.size ?_)
                     intro A4 d4 w4 hown4 hg4 hat4)
        go_roundw
        case rel => exact ⟨k + 1, d4, A4, hlt, by go_num, rfl, by rw [HT.out]; exact hown4, hbA.grown hg4 hbA.size fun q hq => (ho.2.lt hq).1⟩
        case measure => simp [intOf]; omega
      · rw [if_neg (by omega), if_neg (by omega), if_neg (by omega)] at ht
        have HT := Lib.hid ht
        clear ht
        have hoA := ho.alloc (.cells #[.int .i64 8] 3)
        have hbA := hb.alloc hb.size (.cells #[.int .i64 8] 3)
        go_wp2_with (at_builtin; (refine wpList_app .i64 w.heap.size 3 i0 8 rfl (.tmp 16) (.tmp 17) _ rfl Try.underlying25 Hi.out Hz0.out Hz1.out Hz2.out rfl hoA rfl (RdI.lit .i64 wr [8] 3) (by omega) (by omega) hbA.size ?_)
                     intro A4 d4 w4 hown4 hg4 hat4)
        go_roundw
        case rel => exact ⟨k + 1, d4, A4, hlt, by go_num, rfl, by rw [HT.out]; exact hown4, hbA.grown hg4 hbA.size fun q hq => (ho.2.lt hq).1⟩
        case measure => simp [intOf]; omega
      · rw [if_neg (by omega), if_pos (by omega)] at ht
        have HT := Lib.hid ht
        clear ht
        have hoA := ho.alloc (.cells #[.int .i64 9] 3)
        have hbA := hb.alloc hb.size (.cells #[.int .i64 9] 3)
        go_wp2_with (at_builtin; (refine wpList_app .i64 w.heap.size 3 i0 8 rfl (.tmp 22) (.tmp 23) _ rfl Try.underlying25 Hi.out Hz0.out Hz1.out Hz2.out rfl hoA rfl (RdI.lit .i64 wr [9] 3) (by omega) (by omega) hbA.size ?_)
                     intro A4 d4 w4 hown4 hg4 hat4)
        go_roundw
        case rel => exact ⟨k + 1, d4, A4, hlt, by go_num, rfl, by rw [HT.out]; exact hown4, hbA.grown hg4 hbA.size fun q hq => (ho.2.lt hq).1⟩
        case measure => simp [intOf]; omega
      · rw [if_neg (by omega), if_neg (by omega), if_pos (by omega)] at ht
        have HT := Lib.hid ht
        clear ht
        have hoA := ho.alloc (.cells #[.int .i64 7] 3)
        have hbA := hb.alloc hb.size (.cells #[.int .i64 7] 3)
        go_wp2_with (at_builtin; (refine wpList_app .i64 w.heap.size 3 i0 8 rfl (.tmp 6) (.tmp 7) _ rfl Try.underlying25 Hi.out Hz0.out Hz1.out Hz2.out rfl hoA rfl (RdI.lit .i64 wr [7] 3) (by omega) (by omega) hbA.size ?_)
                     intro A4 d4 w4 hown4 hg4 hat4)
        go_roundw
        case rel => exact ⟨k + 1, d4, A4, hlt, by go_num, rfl, by rw [HT.out]; exact hown4, hbA.grown hg4 hbA.size fun q hq => (ho.2.lt hq).1⟩
        case measure => simp [intOf]; omega
    · have hk2 : Hid (k = 288) := by show _ = _; omega
      rw [List.take_of_length_le (by rw [fixL_len]; omega)] at ho
      have hge : ¬ (k : Int) < 288 := by omega
      obtain ⟨n0, hn0⟩ : ∃ n0, n0 = k := ⟨_, rfl⟩
      subst hn0
      clear hlt hk
      go_wp2
      go_loopw [1, 26] (FixS w A n0 c) (fun _ i _ => 32 - (intOf i).toNat)
      case atStart => exact ⟨0, 0, none, Nat.zero_le _, rfl, rfl, OwnI.nil_, ho, by simp [blkOf], hb⟩
      case round =>
        clear ho hb
        obtain ⟨k, d, A1, hk, rfl, rfl, ho, ho0, hap, hb⟩ := hrel
        by_cases hlt : k < 32
        · have hkI : (k : Int) < 32 ∧ (0 : Int) ≤ k := by omega
          have HT := Lib.hid (fixD_take hlt)
          have hoA := ho.alloc (.cells #[.int .i64 5] 3)
          have ho0A := ho0.alloc (.cells #[.int .i64 5] 3)
          have hbA := hb.alloc hb.size (.cells #[.int .i64 5] 3)
          go_wp2_with (at_builtin; (refine wpList_app .i64 w.heap.size 3 i0 8 rfl (.tmp 28) (.tmp 29) _ rfl Try.underlying25 Hi.out Hz0.out Hz1.out Hz2.out rfl hoA rfl (RdI.lit .i64 wr [5] 3) (by omega) (by omega) hbA.size ?_)
                       intro A4 d4 w4 hown4 hg4 hat4)
          go_roundw
          case rel =>
            refine ⟨k + 1, d4, A4, hlt, by go_num, rfl, by rw [HT.out]; exact hown4, ho0A.grown hg4 ?_, fun q hq e => ?_, hbA.grown hg4 hbA.size fun q hq => (ho.2.lt hq).1⟩
            · cases h0 : blkOf A with
              | none => exact .inr rfl
              | some q => exact .inl fun e => hap q e.symm h0
            · rcases hat4 with h4 | h4
              · exact hap q (by rw [← h4]; exact hq) e
              · have := (ho0A.2.lt e).2
                rw [h4] at hq; injection hq with hq; omega
          case measure => simp [intOf]; omega
        · obtain rfl : k = 32 := by omega
          rw [List.take_of_length_le (by rw [fixD_len]; omega)] at ho
          go_wp2
          go_ret2
          have := hk2.out
          subst this
          exact ⟨A, c, A1, d, rfl, ho0, ho, hb⟩
end Go.Proofs.Ytckhkkjdibcclaa
