/-
  The walks of sums.step, Table, CRC, Adler, halves and of the reference's step, CRC, Adler.
-/
import Derived.Test.YtkmpohgbbfhciaaGreatProg
import Derived.Test.YtkmpohgbbfhciaaGreatBlk
import Derived.Test.YtkmpohgbbfhciaaGreatSumP
namespace Go.Proofs.YtkmpohgbbfhciaaGreat
open Go.RowKit
set_option linter.unusedVariables false

theorem xor32 {a b : Int} (h : 0 ≤ a ∧ a < 4294967296) (h' : 0 ≤ b ∧ b < 4294967296) : bits .xor .u32 a b = xorI a b := u32_xor a b h.1 h.2 h'.1 h'.2
theorem stp_odd {x : Int} (h : 0 ≤ x ∧ x < 4294967296) (ho : x % 2 = 1) : stpI x = bits .xor .u32 (x / 2) 3988292384 := by
  rw [xor32 (by omega) (by omega)]
  unfold stpI stp xorI
  rw [if_pos (by omega)]
  congr 2
  omega
theorem stp_ev {x : Int} (h : 0 ≤ x ∧ x < 4294967296) (ho : ¬ x % 2 = 1) : stpI x = x / 2 := by
  unfold stpI stp
  rw [if_neg (by omega)]
  omega
theorem and_one {x : Int} (h : 0 ≤ x ∧ x < 4294967296) : bits .and .u32 x 1 = x % 2 := by
  rw [u32_and x 1 h.1 h.2 (by omega) (by omega)]
  have : x.toNat &&& (1 : Int).toNat = x.toNat % 2 := Nat.and_one_is_mod _
  rw [this]; omega

theorem step_any (x : Int) (w : World) (h : 0 ≤ x ∧ x < 4294967296) :
    Calls Tryz.prog 45 #[.int .u32 x] w fun e w' => e = .returned (.int .u32 (stpI x)) ∧ w = w' := by
  have ha := and_one h
  by_cases ho : x % 2 = 1
  · have H := Lib.hid (stp_odd h ho)
    have t : (bits .and .u32 x 1 != 0) = true := by rw [ha, ho]; rfl
    clear ha
    go_enter Tryz.func45, Tryz.ntmps45
    go_wp2
    go_ret
    exact ⟨ret_int H.out.symm, rfl⟩
  · have H := Lib.hid (stp_ev h ho)
    have t : (bits .and .u32 x 1 != 0) = false := by rw [ha, show x % 2 = 0 by omega]; rfl
    clear ha
    go_enter Tryz.func45, Tryz.ntmps45
    go_wp2
    go_ret
    exact ⟨ret_int H.out.symm, rfl⟩
def tabV (k i : Nat) : Value := .int .u32 (if i < k then stpKI 8 (i : Int) else 0)
theorem tabV_zero (i : Nat) : Value.int .u32 0 = tabV 0 i := by unfold tabV; rw [if_neg (Nat.not_lt_zero _)]
theorem tabV_hit (k j : Nat) : upd (tabV k) k (.int .u32 (stpKI 8 (k : Int))) j = tabV (k + 1) j := by
  by_cases hj : j = k
  · subst hj; rw [upd_same]; unfold tabV; rw [if_pos (by omega)]
  · rw [upd_other _ _ hj]; unfold tabV; congr 1
    by_cases h' : j < k
    · rw [if_pos h', if_pos (by omega)]
    · rw [if_neg h', if_neg (by omega)]
theorem tab_info : (Tryz.prog.info? 65).map (·.size) = some 256 := by kernel_rfl
theorem zrow_arr (n : Nat) (z : Value) : zrow n z = arrOf n (fun _ => z) := by
  unfold arrOf zrow
  apply Array.ext
  · simp
  · intro i h1 h2
    simp
theorem zero256 (W : World) : (zeroValue 65).run Tryz.prog W = .ok (.agg (zrow 256 (.int .u32 0))) W := by kernel_rfl

set_option maxRecDepth 100000 in
set_option maxHeartbeats 2000000 in
theorem table_any (w : World) : Calls Tryz.prog 30 #[] w fun e w' => e = .returned (.agg (arrOf 256 (tabV 256))) ∧ Below w.heap.size w w' := by
  have hz := zero256
  go_enter Tryz.func30, Tryz.ntmps30
  go_wp2
  clear hz
  have h1 : Blk (w.alloc (.cells (zrow 256 (.int .u32 0)) 65)) w.heap.size 65 256 (tabV 0) := Blk.new rfl _ _ (by rw [zrow_arr]; exact arrOf_congr fun i _ => tabV_zero i)
  have h2 : Blk ((w.alloc (.cells (zrow 256 (.int .u32 0)) 65)).alloc (.cells (zrow 256 (.int .u32 0)) 65)) (w.heap.size + 1) 65 256 (tabV 0) := Blk.new (by simp) _ _ (by rw [zrow_arr]; exact arrOf_congr fun i _ => tabV_zero i)
  have hb : Below w.heap.size w ((w.alloc (.cells (zrow 256 (.int .u32 0)) 65)).alloc (.cells (zrow 256 (.int .u32 0)) 65)) := ((Below.refl _ _).alloc (Nat.le_refl _) _).alloc (by simp) _
  have h1 := h1.alloc (.cells (zrow 256 (.int .u32 0)) 65)
  obtain ⟨w1, hw1⟩ : ∃ w1 : World, w1 = (w.alloc (.cells (zrow 256 (.int .u32 0)) 65)).alloc (.cells (zrow 256 (.int .u32 0)) 65) := ⟨_, rfl⟩
  rw [← hw1] at h1 h2 hb ⊢
  clear hw1
  go_loopw [4] (fun i wr => ∃ k : Nat, k ≤ 256 ∧ i = .int .i64 k ∧ Blk wr w.heap.size 65 256 (tabV 0) ∧ Blk wr (w.heap.size + 1) 65 256 (tabV k) ∧ Below w.heap.size w wr) (fun i _ => 256 - (intOf i).toNat)
  case atStart => exact ⟨0, by omega, rfl, h1, h2, hb⟩
  case round =>
    obtain ⟨k, hk, rfl, h1, h2, hb⟩ := hrel
    by_cases hlt : k < 256
    · have c1 := h2.cell hlt
      have z1 := h2.frozen k
      have hk0 : (0 : Int) ≤ (k : Int) ∧ (k : Int) < 256 := by omega
      obtain ⟨q, hq⟩ : ∃ q : Int, (k : Int) = q := ⟨_, rfl⟩
      have HQ := Lib.hid hq
      clear hq
      go_wp2
      go_loop [3, 9] (fun x j => ∃ (m : Nat) (v : Int), m ≤ 8 ∧ j = .int .i64 m ∧ x = .int .u32 v ∧ 0 ≤ v ∧ v < 4294967296 ∧ Hid (v = stpKI m (k : Int))) (fun _ j => 8 - (intOf j).toNat)
      case atStart => exact ⟨0, _, by omega, rfl, rfl, by omega, by omega, (stpKI_zero (by omega)).symm⟩
      case round =>
        obtain ⟨m, v, hm, rfl, rfl, hv0, hv1, HV⟩ := hrel
        by_cases hm8 : m < 8
        · have hsb := stpI_bd ⟨hv0, hv1⟩
          go_wp2_with fail
          refine (step_any _ _ ⟨hv0, hv1⟩).mono ?_
          rintro e w' ⟨rfl, rfl⟩
          go_wp2
          go_round
          case rel => exact ⟨m + 1, _, by omega, by go_num, rfl, hsb.1, hsb.2, by show _ = _; rw [stpKI_succ, HV.out]⟩
          case measure => simp [intOf]; omega
        · obtain rfl : 8 = m := by omega
          go_wp2
          go_roundw
          case rel => exact ⟨k + 1, by omega, by go_num, h1.far (by simp) _, (h2.set_ k _).congr fun j _ => by rw [HV.out]; exact tabV_hit k j, hb.setCell (by simp) _⟩
          case measure => simp [intOf]; omega
    · obtain rfl : 256 = k := by omega
      go_wp2_with (first
        | (refine wpList_load_row rfl 65 (.tmp 1) rfl (w.heap.size + 1) rfl 65 _ (0, 0) _ h2 Tryz.underlying65 rfl (by rw [arrOf_size]; exact tab_info) ?_)
        | (refine wpList_store_row rfl 65 (.tmp 0) (.tmp 18) rfl w.heap.size (arrOf 256 (tabV 256)) rfl rfl 65 _ h1 (by rw [arrOf_size]; exact tab_info) (by rw [arrOf_size, arrOf_size]) (arrOf_one _ _ fun _ _ => rfl) ?_))
      refine bodyPost_ret (results_cell_row rfl _ _ w.heap.size 65 (arrOf 256 (tabV 256)) (0, 0) _ rfl (h1.row 256 (tabV 256)) Tryz.underlying65 rfl (by rw [arrOf_size]; exact tab_info)) rfl ?_
      exact ⟨rfl, below_setRow hb (Nat.le_refl _) _⟩
end Go.Proofs.YtkmpohgbbfhciaaGreat
