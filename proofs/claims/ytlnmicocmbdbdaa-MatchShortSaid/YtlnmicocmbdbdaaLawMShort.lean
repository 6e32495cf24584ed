/-
  The walk of the statement MatchShort.
-/
import Derived.Test.YtlnmicocmbdbdaaProg
import Derived.Test.YtlnmicocmbdbdaaText9
import Derived.Test.YtlnmicocmbdbdaaFndT
namespace Go.Proofs.Ytlnmicocmbdbdaa
open Go.RowKit
set_option linter.unusedVariables false

def shV (c : Int) (k i : Nat) : Value := .int .u8 (if i < k then c else 0)
set_option maxRecDepth 100000 in
set_option maxHeartbeats 4000000 in
theorem matchShort_law (c more level : Int) (w : World) (hc : (Lit.int .u8 c).wf = true) (hm : (Lit.int .u16 more).wf = true) (hl : (Lit.int .u8 level).wf = true) :
    Calls Try.prog 6 #[.int .u8 c, .int .u16 more, .int .u8 level] w fun e w' => e = .returned (.bool true) ∧ Below w.heap.size w w' := by
  have hcb := bounds_u8 hc
  have hmb := bounds_u16 hm
  have hlb := bounds_u8 hl
  clear hc hm hl
  obtain ⟨M, hM⟩ := Int.eq_ofNat_of_zero_le (show 0 ≤ more % 5000 by omega)
  have hMt : more.tmod 5000 = (M : Int) := by rw [Int.tmod_eq_emod_of_nonneg hmb.1, hM]
  have hMb : (0 : Int) ≤ M ∧ (M : Int) ≤ 4999 := by omega
  obtain ⟨V, hV⟩ := Int.eq_ofNat_of_zero_le (show 0 ≤ level % 9 by omega)
  have hVt : level.tmod 9 = (V : Int) := by rw [Int.tmod_eq_emod_of_nonneg hlb.1, hV]
  have hVb : (0 : Int) ≤ V ∧ (V : Int) ≤ 8 := by omega
  obtain ⟨n, hn⟩ : ∃ n, 517 + M = n := ⟨_, rfl⟩
  have hnI : (517 : Int) + (M : Int) = (n : Int) := by omega
  have hnb : (n : Int) ≤ 5600 ∧ (517 : Int) ≤ n := by omega
  obtain ⟨i0, hi, hz0, hz1, hz2⟩ := info_parts fbyte2_info
  have hmk := fun W => run_make_zrow (P := Try.prog) 22 5 i0 (.int .u8 0) Try.underlying22 hi hz0 hz1 rfl .i64 .i64 n (by rw [hz2]; omega) (by omega) W
  clear hi hz0 hz1 hz2 hn
  go_enter Try.func6, Try.ntmps6
  go_wp2_with fail
  clear hmk
  have o1 : Ar (w.alloc (.cells (zrow n (.int .u8 0)) 5)) w.heap.size n (shV c 0) := (Ar.zeros' n (.int .u8 0) 5 rfl).congr fun j _ => by unfold shV; rw [if_neg (by omega)]
  have hb : Below w.heap.size w (w.alloc (.cells (zrow n (.int .u8 0)) 5)) := (Below.refl _ _).alloc (Nat.le_refl _) _
  generalize w.alloc (.cells (zrow n (.int .u8 0)) 5) = wp at *
  go_loopw [9] (fun i wr => ∃ k : Nat, k ≤ n ∧ i = .int .i64 k ∧ Ar wr w.heap.size n (shV c k) ∧ Below w.heap.size w wr) (fun i _ => n - (intOf i).toNat)
  case atStart => exact ⟨0, Nat.zero_le _, rfl, o1, hb⟩
  case round =>
    clear o1 hb
    obtain ⟨k, hk, rfl, o1, hb⟩ := hrel
    by_cases hlt : k < n
    · have hkI : (k : Int) < (n : Int) ∧ (0 : Int) ≤ k := by omega
      have c1 := o1.cell hlt
      have z1 := o1.frozen' (i := k) hlt
      go_wp2_with fail
      go_roundw
      case rel => exact ⟨k + 1, hlt, by go_num, (o1.set_ hlt _).congr fun j hj => by
        unfold upd shV
        by_cases e : j = k
        · rw [if_pos e, if_pos (by omega)]
        · rw [if_neg e]
          by_cases e2 : j < k
          · rw [if_pos e2, if_pos (by omega)]
          · rw [if_neg e2, if_neg (by omega)], hb.setCell (Nat.le_refl _) _⟩
      case measure => simp [intOf]; omega
    · obtain rfl : k = n := by omega
      have hrd : RdI .u8 wr wr.heap.size (some ⟨w.heap.size, 0, none⟩) k (List.replicate k c) := ⟨by simp, (o1.rd o1.lt (Nat.le_refl _)).congr fun i hi => by unfold shV; rw [if_pos hi, ix_repc _ _ hi]⟩
      have hE0 : (effOf ((V : Int) + 1)).chain ≠ 0 := fun h => by have := (effOf_zero ((V : Int) + 1)).1 h; omega
      have hE1 := (effOf_bd ((V : Int) + 1)).2
      have hfew := Lib.hid (fun l st' (hr : Run (effOf ((V : Int) + 1)) 0 (writeF newF (List.replicate k c)) l st') => few_all hE0 hE1 (by omega) (by omega) hr)
      clear o1 hE0 hE1
      go_wp2_with fail
      refine (mtok_any ((V : Int) + 1) _ (by omega) hrd (Nat.le_refl _) (fun v hv => by rw [List.eq_of_mem_replicate hv]; exact hcb) (by omega)).mono ?_
      rintro r w2 ⟨l, st', A, nt, ct, rfl, hrun, hend, ho, hb2⟩
      have hbw2 := hb.trans (hb2.mono hb.size)
      have hf := hfew.out l st' hrun
      have hnt : (10 : Int) * (nt : Int) < (k : Int) ∧ (0 : Int) ≤ nt := by have := ho.1; omega
      clear ho hrun hend hf
      go_wp2_with fail
      refine (fwrite_nil _ _).mono ?_
      rintro r w3 ⟨rfl, rfl⟩
      go_wp2_with fail
      refine (answers9_any _).mono ?_
      rintro r w4 ⟨rfl, hb4⟩
      have hbw4 := hbw2.trans (hb4.mono hbw2.size)
      go_wp2_with fail
      refine (mtokens_nil _ _).mono ?_
      rintro r w5 ⟨rfl, rfl⟩
      go_wp2_with fail
      refine (waiting_nil _).mono ?_
      rintro r w6 ⟨rfl, rfl⟩
      go_wp2_with fail
      go_ret
      exact ⟨rfl, hbw4⟩
end Go.Proofs.Ytlnmicocmbdbdaa
