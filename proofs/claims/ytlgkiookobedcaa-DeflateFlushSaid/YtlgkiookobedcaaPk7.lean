/-
  Several texts in one (written by pack2.py): Codes, DoneP, Tok, TokCD, TokR, TokC, Sum, Alone.
-/
import Derived.Test.YtlgkiookobedcaaProg
import Derived.Test.YtlgkiookobedcaaPk1
namespace Go.Proofs.Ytlgkiookobedcaa
open Go.RowKit
set_option linter.unusedVariables false
theorem codes_info : (Try.prog.info? 47).map (fun i => (i.zero, i.size, i.bytes)) = some (some (.int .u32 0), 1, 4) := by kernel_rfl
def cntV (l : List Int) (k : Nat) (v : Nat) : Value := .int .u32 (if 1 ≤ v then (cnt l k v : Nat) else 0 : Nat)
def nxtV (l : List Int) (k : Nat) (v : Nat) : Value := .int .u32 (if v < k then nxt l v else 0 : Nat)
def runV (l : List Int) (k : Nat) (v : Nat) : Value := .int .u32 (nxt l v + if 1 ≤ v then (cnt l k v : Nat) else 0 : Nat)
def outV (l : List Int) (k : Nat) (i : Nat) : Value := .int .u32 (if i < k then codeAt l i else 0 : Nat)
theorem cntV_zero (l : List Int) (v : Nat) : Value.int .u32 0 = cntV l 0 v := by unfold cntV; congr 1; simp [cnt]
theorem cntV_at (l : List Int) (k : Nat) {v : Nat} (h : 1 ≤ v) : cntV l k v = .int .u32 (cnt l k v : Nat) := by unfold cntV; rw [if_pos h]
theorem cntV_hit (l : List Int) (k : Nat) {v : Nat} (h : 1 ≤ v) (e : ix l k = (v : Int)) (j : Nat) : upd (cntV l k) v (.int .u32 ((cnt l k v : Int) + 1)) j = cntV l (k + 1) j := by
  by_cases hj : j = v
  · subst hj; rw [upd_same, cntV_at _ _ h]; congr 1; simp [cnt, e]
  · rw [upd_other _ _ hj]; unfold cntV; congr 3
    have : ¬ ix l k = (j : Int) := by rw [e]; omega
    simp [cnt, this]
theorem cntV_miss (l : List Int) (k : Nat) (h : ¬ (1 ≤ ix l k ∧ ix l k ≤ 15)) (j : Nat) (hj : j < 16) : cntV l k j = cntV l (k + 1) j := by
  unfold cntV
  by_cases h1 : 1 ≤ j
  · rw [if_pos h1, if_pos h1]
    have : ¬ ix l k = (j : Int) := by omega
    simp [cnt, this]
  · rw [if_neg h1, if_neg h1]
theorem nxtV_zero (l : List Int) (v : Nat) : Value.int .u32 0 = nxtV l 2 v := by
  unfold nxtV; congr 1; split
  · rename_i h; rcases v with _ | _ | v <;> simp [nxt]; omega
  · rfl
theorem nxtV_at (l : List Int) {k v : Nat} (h : v < k) : nxtV l k v = .int .u32 (nxt l v : Nat) := by unfold nxtV; rw [if_pos h]
theorem nxtV_hit (l : List Int) (n : Nat) {k : Nat} (h : 2 ≤ k) (hn : n = l.length) (j : Nat) : upd (nxtV l k) k (.int .u32 (2 * ((nxt l (k - 1) : Int) + (cnt l n (k - 1) : Int)))) j = nxtV l (k + 1) j := by
  subst hn
  by_cases hj : j = k
  · subst hj
    rw [upd_same, nxtV_at _ (by omega)]
    obtain ⟨q, rfl⟩ : ∃ q, j = q + 2 := ⟨j - 2, by omega⟩
    congr 1
  · rw [upd_other _ _ hj]; unfold nxtV; congr 2
    by_cases h' : j < k
    · rw [if_pos h', if_pos (by omega)]
    · rw [if_neg h', if_neg (by omega)]
theorem runV_of (l : List Int) (j : Nat) (hj : j < 16) : nxtV l 16 j = runV l 0 j := by
  rw [nxtV_at _ hj]; unfold runV; congr 1; simp [cnt]
theorem runV_at (l : List Int) (k : Nat) {v : Nat} (h : 1 ≤ v) : runV l k v = .int .u32 ((nxt l v + cnt l k v : Nat) : Int) := by unfold runV; rw [if_pos h]
theorem runV_hit (l : List Int) (k : Nat) {v : Nat} (h : 1 ≤ v) (e : ix l k = (v : Int)) (j : Nat) : upd (runV l k) v (.int .u32 (((nxt l v + cnt l k v : Nat) : Int) + 1)) j = runV l (k + 1) j := by
  by_cases hj : j = v
  · subst hj; rw [upd_same, runV_at _ _ h]; congr 1; simp [cnt, e]; omega
  · rw [upd_other _ _ hj]; unfold runV; congr 4
    have : ¬ ix l k = (j : Int) := by rw [e]; omega
    simp [cnt, this]
theorem runV_miss (l : List Int) (k : Nat) (h : ¬ (1 ≤ ix l k ∧ ix l k ≤ 15)) (j : Nat) (hj : j < 16) : runV l k j = runV l (k + 1) j := by
  unfold runV
  by_cases h1 : 1 ≤ j
  · rw [if_pos h1, if_pos h1]
    have : ¬ ix l k = (j : Int) := by omega
    simp [cnt, this]
  · rw [if_neg h1, if_neg h1]
theorem outV_zero (l : List Int) (v : Nat) : Value.int .u32 0 = outV l 0 v := by unfold outV; congr 1
theorem outV_hit (l : List Int) (k : Nat) {v : Nat} (h : 1 ≤ v) (h' : v ≤ 15) (e : ix l k = (v : Int)) (j : Nat) : upd (outV l k) k (.int .u32 ((nxt l v + cnt l k v : Nat) : Int)) j = outV l (k + 1) j := by
  by_cases hj : j = k
  · subst hj; rw [upd_same]; unfold outV codeAt isLen; rw [if_pos (by omega), e]; congr 1
    rw [if_pos (by simp; omega)]; simp
  · rw [upd_other _ _ hj]; unfold outV; congr 2
    by_cases h'' : j < k
    · rw [if_pos h'', if_pos (by omega)]
    · rw [if_neg h'', if_neg (by omega)]
theorem outV_miss (l : List Int) (k : Nat) (h : ¬ (1 ≤ ix l k ∧ ix l k ≤ 15)) (j : Nat) : outV l k j = outV l (k + 1) j := by
  unfold outV; congr 2
  by_cases hj : j = k
  · subst hj
    rw [if_neg (by omega), if_pos (by omega)]
    unfold codeAt isLen
    rw [if_neg (by simpa using h)]
  · by_cases h'' : j < k
    · rw [if_pos h'', if_pos (by omega)]
    · rw [if_neg h'', if_neg (by omega)]
set_option maxHeartbeats 1000000 in
theorem codes_at (A : Option Addr) (n c : Nat) (l : List Int) (w : World) (hl : RdI .i64 w w.heap.size A n l) (hn : n ≤ 288) :
    Calls Try.prog 76 #[.slice A n c] w fun e w' => e = .returned (.slice (some ⟨w.heap.size + 2, 0, none⟩) n n) ∧ RdI .u32 w' w'.heap.size (some ⟨w.heap.size + 2, 0, none⟩) n (codesOf l) ∧ Below w.heap.size w w' := by
  obtain ⟨i0, hi, hz0, hz1, hz2⟩ := info_parts codes_info
  have hln1 : n ≤ l.length ∧ l.length ≤ n := by have := hl.1; omega
  have hmk := fun W => run_make_zrow (P := Try.prog) 33 47 i0 (.int .u32 0) Try.underlying33 hi hz0 hz1 rfl .i64 .i64 n (by rw [hz2]; omega) (by omega) W
  have HM := Lib.hid hmk
  clear hmk hi hz0 hz1 hz2
  have hn1 : ¬ (288 < (n : Int)) := by omega
  go_enter Try.func76, Try.ntmps76
  go_wp2
  go_loopw [16] (fun i wr => ∃ k : Nat, k ≤ n ∧ i = .int .i64 k ∧ Ar wr w.heap.size 16 (cntV l k) ∧ Ar wr (w.heap.size + 1) 16 (fun _ => .int .u32 0) ∧ Sz wr (w.heap.size + 2) ∧ Below w.heap.size w wr) (fun i _ => n - (intOf i).toNat)
  case atStart =>
    have a1 : Ar (w.alloc (.cells (zrow 16 (.int .u32 0)) 134)) w.heap.size 16 _ := Ar.zeros w 16 (.int .u32 0) 134
    have a2 : Ar ((w.alloc (.cells (zrow 16 (.int .u32 0)) 134)).alloc (.cells (zrow 16 (.int .u32 0)) 134)) (w.heap.size + 1) 16 _ := Ar.zeros' 16 (.int .u32 0) 134 (by simp)
    exact ⟨0, Nat.zero_le _, rfl, (a1.alloc _).congr fun v _ => cntV_zero l v, a2, by simp [Sz], ((Below.refl _ _).alloc (Nat.le_refl _) _).alloc (by simp) _⟩
  case round =>
    obtain ⟨k, hk, rfl, h1, h2, HS, hb⟩ := hrel
    by_cases hlt : k < n
    · obtain ⟨a1, rfl, _, hc⟩ := (hl.below hb).at_ hlt
      by_cases ht : 1 ≤ ix l k ∧ ix l k ≤ 15
      · obtain ⟨v, hv⟩ : ∃ v : Nat, ix l k = (v : Int) := ⟨(ix l k).toNat, by omega⟩
        rw [hv] at hc ht
        have hb1 : (1 : Int) ≤ (v : Int) ∧ (v : Int) ≤ 15 := ht
        have c1 := h1.cell (i := v) (by omega)
        rw [cntV_at l k (by omega)] at c1
        have z1 := h1.frozen' (i := v) (by omega)
        have bd := cnt_le l k v
        have H := Lib.hid hv
        clear hv
        go_wp2
        go_roundw
        case rel => exact ⟨k + 1, by omega, by go_num, (h1.set_ (by omega) _).congr fun j _ => cntV_hit l k (by omega) H.out j, h2.far (by simp) _, HS.set_ _ _, hb.setCell (by simp) _⟩
        case measure => simp [intOf]; omega
      · go_wp2
        all_goals
          go_roundw
          case rel => exact ⟨k + 1, by omega, by go_num, h1.congr (cntV_miss l k ht), h2, HS, hb⟩
          case measure => simp [intOf]; omega
    · obtain rfl : n = k := by omega
      go_wp2
      obtain ⟨wo, rfl⟩ : ∃ wo : World, wo = wr := ⟨_, rfl⟩
      go_loopw [7] (fun i wr => ∃ k : Nat, 2 ≤ k ∧ k ≤ 16 ∧ i = .int .i64 k ∧ Ar wr w.heap.size 16 (cntV l n) ∧ Ar wr (w.heap.size + 1) 16 (nxtV l k) ∧ Sz wr (w.heap.size + 2) ∧ Below w.heap.size w wr) (fun i _ => 16 - (intOf i).toNat)
      case atStart => exact ⟨2, by omega, by omega, rfl, h1, h2.congr fun v _ => nxtV_zero l v, HS, hb⟩
      case round =>
        obtain ⟨k, hk2, hk, rfl, h1, h2, HS, hb⟩ := hrel
        by_cases hlt : k < 16
        · have c1 := h1.cell (i := k - 1) (by omega)
          rw [cntV_at l n (by omega)] at c1
          have c2 := h2.cell (i := k - 1) (by omega)
          rw [nxtV_at l (by omega)] at c2
          have c3 := h2.cell (i := k) (by omega)
          have z3 := h2.frozen' (i := k) (by omega)
          have b1 := cnt_le l n (k - 1)
          have b2 := nxt_bd l (by omega) (v := k - 1) (by omega)
          have b3 : ((k : Int) - 1).toNat = k - 1 := by omega
          go_wp2
          go_region
          go_wp2
          go_roundw
          case rel => exact ⟨k + 1, by omega, by omega, by go_num, h1.far (by simp) _, (h2.set_ (by omega) _).congr fun j _ => nxtV_hit l n hk2 (by omega) j, (HS.set_ _ _).drew, (hb.setCell (by simp) _).drew⟩
          case measure => simp [intOf]; omega
        · obtain rfl : 16 = k := by omega
          have hm := HM.out wr
          have hs : wr.heap.size = w.heap.size + 2 := HS
          go_wp2
          clear hs hm
          have o1 : Ar (wr.alloc (.cells (zrow n (.int .u32 0)) 47)) (w.heap.size + 2) n (outV l 0) := (Ar.zeros' n (.int .u32 0) 47 HS.symm).congr fun j _ => outV_zero l j
          have h2' := (h2.congr (fun j hj => runV_of l j hj)).alloc (.cells (zrow n (.int .u32 0)) 47)
          have hb' := hb.alloc (by rw [show wr.heap.size = w.heap.size + 2 from HS]; omega) (.cells (zrow n (.int .u32 0)) 47)
          have HS' := HS.alloc (.cells (zrow n (.int .u32 0)) 47)
          clear h1 h2 hb HS
          obtain ⟨wp, hwp⟩ : ∃ wp : World, wp = wr.alloc (.cells (zrow n (.int .u32 0)) 47) := ⟨_, rfl⟩
          rw [← hwp] at o1 h2' hb' HS' ⊢
          clear hwp
          go_loopw [53] (fun i wr => ∃ k : Nat, k ≤ n ∧ i = .int .i64 k ∧ Ar wr (w.heap.size + 1) 16 (runV l k) ∧ Ar wr (w.heap.size + 2) n (outV l k) ∧ Sz wr (w.heap.size + 3) ∧ Below w.heap.size w wr) (fun i _ => n - (intOf i).toNat)
          case atStart => exact ⟨0, Nat.zero_le _, rfl, h2', o1, HS', hb'⟩
          case round =>
            obtain ⟨k, hk, rfl, h2, o1, HS, hb⟩ := hrel
            by_cases hlt : k < n
            · obtain ⟨a1, rfl, _, hc⟩ := (hl.below hb).at_ hlt
              by_cases ht : 1 ≤ ix l k ∧ ix l k ≤ 15
              · obtain ⟨v, hv⟩ : ∃ v : Nat, ix l k = (v : Int) := ⟨(ix l k).toNat, by omega⟩
                rw [hv] at hc ht
                have hb1 : (1 : Int) ≤ (v : Int) ∧ (v : Int) ≤ 15 := ht
                have c1 := h2.cell (i := v) (by omega)
                rw [runV_at l k (by omega)] at c1
                have z1 := h2.frozen' (i := v) (by omega)
                have c2 := o1.cell hlt
                have z2 := o1.frozen' (i := k) (by omega)
                have bd := cnt_le l k v
                have bd2 := nxt_bd l (by omega) (v := v) (by omega)
                have H := Lib.hid hv
                clear hv
                go_wp2
                go_roundw
                case rel => exact ⟨k + 1, by omega, by go_num, ((h2.far (by simp) _).set_ (by omega) _).congr fun j _ => runV_hit l k (by omega) H.out j, ((o1.set_ hlt _).far (by simp) _).congr fun j _ => outV_hit l k (by omega) (by omega) H.out j, (HS.set_ _ _).set_ _ _, (hb.setCell (by simp) _).setCell (by simp) _⟩
                case measure => simp [intOf]; omega
              · go_wp2
                all_goals
                  go_roundw
                  case rel => exact ⟨k + 1, by omega, by go_num, h2.congr (runV_miss l k ht), o1.congr fun j _ => outV_miss l k ht j, HS, hb⟩
                  case measure => simp [intOf]; omega
            · obtain rfl : n = k := by omega
              go_wp2
              go_ret
              refine ⟨rfl, ⟨by rw [codesOf_length l (by omega)]; omega, ?_⟩, hb⟩
              refine (o1.rd (by rw [show wr.heap.size = _ from HS]; omega) (Nat.le_refl _)).congr fun i hi => ?_
              unfold outV
              rw [if_pos hi, ix_codesOf l (by omega) (by omega)]
end Go.Proofs.Ytlgkiookobedcaa
namespace Go.Proofs.Ytlgkiookobedcaa
open Go.RowKit
set_option linter.unusedVariables false
def preC (l : List Int) (v : Nat) : Nat := if v ≤ 1 then 0 else nxt l (v - 1) + cnt l l.length (v - 1)
theorem preC_one (l : List Int) : preC l 1 = 0 := by simp [preC]
theorem preC_nxt (l : List Int) {v : Nat} (h : 1 ≤ v) : nxt l v = 2 * preC l v := by
  unfold preC
  rcases v with _ | _ | v
  · omega
  · simp [nxt]
  · simp [nxt]
theorem preC_succ (l : List Int) {v : Nat} (h : 1 ≤ v) : preC l (v + 1) = nxt l v + cnt l l.length v := by
  unfold preC; rw [if_neg (by omega)]; simp
def doneV (l : List Int) (v k j : Nat) : Value := .int .u32 (if ix l j < v ∨ (ix l j = v ∧ j < k) then codeAt l j else 0 : Nat)
theorem codeAt_no {l : List Int} {j : Nat} (h : ¬ (1 ≤ ix l j ∧ ix l j ≤ 15)) : codeAt l j = 0 := by
  unfold codeAt isLen; rw [if_neg (by simpa using h)]
theorem codeAt_yes {l : List Int} {j v : Nat} (h1 : 1 ≤ v) (h2 : v ≤ 15) (e : ix l j = v) : codeAt l j = nxt l v + cnt l j v := by
  unfold codeAt isLen; rw [e, if_pos (by simp; omega)]; simp
theorem doneV_start (l : List Int) (j : Nat) : Value.int .u32 0 = doneV l 1 0 j := by
  unfold doneV
  congr 1
  split
  · rename_i h
    rw [codeAt_no (by omega)]; rfl
  · rfl
theorem doneV_next (l : List Int) (v j : Nat) (hj : j < l.length) : doneV l v l.length j = doneV l (v + 1) 0 j := by
  unfold doneV
  congr 2
  by_cases h : ix l j < (v : Int) + 1
  · rw [if_pos (by omega), if_pos (by omega)]
  · rw [if_neg (by omega), if_neg (by omega)]
theorem doneV_end (l : List Int) (j : Nat) : doneV l 16 0 j = .int .u32 (codeAt l j : Nat) := by
  unfold doneV
  congr 2
  split
  · rfl
  · rename_i h
    rw [codeAt_no (by omega)]
theorem doneV_hit {l : List Int} {v k : Nat} (h1 : 1 ≤ v) (h2 : v ≤ 15) (e : ix l k = v) (j : Nat) : upd (doneV l v k) k (.int .u32 ((nxt l v + cnt l k v : Nat) : Int)) j = doneV l v (k + 1) j := by
  by_cases hj : j = k
  · subst hj
    rw [upd_same]; unfold doneV; rw [if_pos (.inr ⟨e, by omega⟩), codeAt_yes h1 h2 e]
  · rw [upd_other _ _ hj]; unfold doneV; congr 2
    by_cases h : ix l j < (v : Int) ∨ (ix l j = v ∧ j < k)
    · rw [if_pos h, if_pos (by omega)]
    · rw [if_neg h, if_neg (by omega)]
theorem doneV_miss {l : List Int} {v k : Nat} (e : ¬ ix l k = v) (j : Nat) : doneV l v k j = doneV l v (k + 1) j := by
  unfold doneV; congr 2
  by_cases h : ix l j < (v : Int) ∨ (ix l j = v ∧ j < k)
  · rw [if_pos h, if_pos (by omega)]
  · by_cases hj : j = k
    · subst hj; rw [if_neg h, if_neg (by omega)]
    · rw [if_neg h, if_neg (by omega)]
end Go.Proofs.Ytlgkiookobedcaa
namespace Go.Proofs.Ytlgkiookobedcaa
open Go.RowKit
set_option linter.unusedVariables false
set_option maxHeartbeats 8000000 in
theorem lenBase_code (j : Nat) (hj : j < 29) (x : Int) (hx : x = 257 + (j : Int)) (w : World) : Calls Try.prog 78 #[.int .i64 x] w fun e w' => e = .returned (.tuple #[.int .i64 ((lB j : Nat) : Int), .int .i64 ((lE j : Nat) : Int), .bool true]) ∧ w = w' := by
  have h : j = 0 ∨ j = 1 ∨ j = 2 ∨ j = 3 ∨ j = 4 ∨ j = 5 ∨ j = 6 ∨ j = 7 ∨ j = 8 ∨ j = 9 ∨ j = 10 ∨ j = 11 ∨ j = 12 ∨ j = 13 ∨ j = 14 ∨ j = 15 ∨ j = 16 ∨ j = 17 ∨ j = 18 ∨ j = 19 ∨ j = 20 ∨ j = 21 ∨ j = 22 ∨ j = 23 ∨ j = 24 ∨ j = 25 ∨ j = 26 ∨ j = 27 ∨ j = 28 := by omega
  rcases h with rfl | rfl | rfl | rfl | rfl | rfl | rfl | rfl | rfl | rfl | rfl | rfl | rfl | rfl | rfl | rfl | rfl | rfl | rfl | rfl | rfl | rfl | rfl | rfl | rfl | rfl | rfl | rfl | rfl
  all_goals
    subst hx
    go_enter Try.func78, Try.ntmps78
    go_wp2
    go_ret3
    exact ⟨rfl, rfl⟩
set_option maxHeartbeats 8000000 in
theorem distBase_code (j : Nat) (hj : j < 30) (x : Int) (hx : x = 0 + (j : Int)) (w : World) : Calls Try.prog 79 #[.int .i64 x] w fun e w' => e = .returned (.tuple #[.int .i64 ((dB j : Nat) : Int), .int .i64 ((dE j : Nat) : Int), .bool true]) ∧ w = w' := by
  have h : j = 0 ∨ j = 1 ∨ j = 2 ∨ j = 3 ∨ j = 4 ∨ j = 5 ∨ j = 6 ∨ j = 7 ∨ j = 8 ∨ j = 9 ∨ j = 10 ∨ j = 11 ∨ j = 12 ∨ j = 13 ∨ j = 14 ∨ j = 15 ∨ j = 16 ∨ j = 17 ∨ j = 18 ∨ j = 19 ∨ j = 20 ∨ j = 21 ∨ j = 22 ∨ j = 23 ∨ j = 24 ∨ j = 25 ∨ j = 26 ∨ j = 27 ∨ j = 28 ∨ j = 29 := by omega
  rcases h with rfl | rfl | rfl | rfl | rfl | rfl | rfl | rfl | rfl | rfl | rfl | rfl | rfl | rfl | rfl | rfl | rfl | rfl | rfl | rfl | rfl | rfl | rfl | rfl | rfl | rfl | rfl | rfl | rfl | rfl
  all_goals
    subst hx
    go_enter Try.func79, Try.ntmps79
    go_wp2
    go_ret3
    exact ⟨rfl, rfl⟩
end Go.Proofs.Ytlgkiookobedcaa
namespace Go.Proofs.Ytlgkiookobedcaa
open Go.RowKit
set_option linter.unusedVariables false
def CodePost (B E : Nat → Nat) (lo hi off : Int) (top : Nat) (n : Int) (w : World) (e : Ending) (w' : World) : Prop := (∃ v, e = .returned v ∧ CodeIs B E lo hi off top n v) ∧ w = w'
theorem lB_bdu : ∀ j, j < 29 → 1 ≤ lB j ∧ lB j ≤ 32768 := by decide +kernel
theorem dB_bdu : ∀ j, j < 30 → 1 ≤ dB j ∧ dB j ≤ 32768 := by decide +kernel
end Go.Proofs.Ytlgkiookobedcaa
namespace Go.Proofs.Ytlgkiookobedcaa
open Go.RowKit
set_option linter.unusedVariables false
def lensV (x : Int) : Value := if 257 ≤ x ∧ x ≤ 285 then .tuple #[.int .i64 ((lB (x - 257).toNat : Nat) : Int), .int .i64 ((lE (x - 257).toNat : Nat) : Int), .bool true] else .tuple #[.int .i64 0, .int .i64 0, .bool false]
def lensRel (x : Int) (w : World) (b i : Value) (wr : World) : Prop := ∃ j : Nat, j ≤ 28 ∧ i = .int .i64 (257 + (j : Int)) ∧ b = .int .i64 ((lR j : Nat) : Int) ∧ wr = w ∧ Hid (x < 257 ∨ 257 + (j : Int) ≤ x)
set_option maxHeartbeats 16000000 in
theorem lens_any (x : Int) (w : World) : Calls Try.prog 36 #[.int .i64 x] w fun e w' => e = .returned (lensV x) ∧ w = w' := by
  have hnone : x < 257 ∨ 285 < x → lensV x = .tuple #[.int .i64 0, .int .i64 0, .bool false] := fun h => by unfold lensV; rw [if_neg (by omega)]
  have HN := Lib.hid hnone
  clear hnone
  go_enter Try.func36, Try.ntmps36
  go_wp2
  go_loopw [5, 6] (lensRel x w) (fun _ i _ => 28 - (intOf i - 257).toNat)
  case atStart => exact ⟨0, by omega, rfl, rfl, rfl, by show _ ∨ _; omega⟩
  case round =>
    obtain ⟨j, hj, rfl, rfl, rfl, HX⟩ := hrel
    have h : j = 0 ∨ j = 1 ∨ j = 2 ∨ j = 3 ∨ j = 4 ∨ j = 5 ∨ j = 6 ∨ j = 7 ∨ j = 8 ∨ j = 9 ∨ j = 10 ∨ j = 11 ∨ j = 12 ∨ j = 13 ∨ j = 14 ∨ j = 15 ∨ j = 16 ∨ j = 17 ∨ j = 18 ∨ j = 19 ∨ j = 20 ∨ j = 21 ∨ j = 22 ∨ j = 23 ∨ j = 24 ∨ j = 25 ∨ j = 26 ∨ j = 27 ∨ j = 28 := by omega
    clear hj
    rcases h with rfl | rfl | rfl | rfl | rfl | rfl | rfl | rfl | rfl | rfl | rfl | rfl | rfl | rfl | rfl | rfl | rfl | rfl | rfl | rfl | rfl | rfl | rfl | rfl | rfl | rfl | rfl | rfl | rfl
    · rw [show ((lR 0 : Nat) : Int) = 3 from rfl, show (257 : Int) + ((0 : Nat) : Int) = 257 from rfl]
      by_cases hx : x = 257
      · subst hx
        go_wp2
        go_ret3
        exact ⟨rfl, rfl⟩
      · have hx1 : ¬ (257 : Int) = x := fun h => hx h.symm
        have hx2 : ((257 : Int) == x) = false := by simpa using hx1
        go_wp2
        go_roundw
        case rel => exact ⟨1, by omega, rfl, rfl, rfl, by have := HX.out; show _ ∨ _; omega⟩
        case measure => decide
    · rw [show ((lR 1 : Nat) : Int) = 4 from rfl, show (257 : Int) + ((1 : Nat) : Int) = 258 from rfl]
      by_cases hx : x = 258
      · subst hx
        go_wp2
        go_ret3
        exact ⟨rfl, rfl⟩
      · have hx1 : ¬ (258 : Int) = x := fun h => hx h.symm
        have hx2 : ((258 : Int) == x) = false := by simpa using hx1
        go_wp2
        go_roundw
        case rel => exact ⟨2, by omega, rfl, rfl, rfl, by have := HX.out; show _ ∨ _; omega⟩
        case measure => decide
    · rw [show ((lR 2 : Nat) : Int) = 5 from rfl, show (257 : Int) + ((2 : Nat) : Int) = 259 from rfl]
      by_cases hx : x = 259
      · subst hx
        go_wp2
        go_ret3
        exact ⟨rfl, rfl⟩
      · have hx1 : ¬ (259 : Int) = x := fun h => hx h.symm
        have hx2 : ((259 : Int) == x) = false := by simpa using hx1
        go_wp2
        go_roundw
        case rel => exact ⟨3, by omega, rfl, rfl, rfl, by have := HX.out; show _ ∨ _; omega⟩
        case measure => decide
    · rw [show ((lR 3 : Nat) : Int) = 6 from rfl, show (257 : Int) + ((3 : Nat) : Int) = 260 from rfl]
      by_cases hx : x = 260
      · subst hx
        go_wp2
        go_ret3
        exact ⟨rfl, rfl⟩
      · have hx1 : ¬ (260 : Int) = x := fun h => hx h.symm
        have hx2 : ((260 : Int) == x) = false := by simpa using hx1
        go_wp2
        go_roundw
        case rel => exact ⟨4, by omega, rfl, rfl, rfl, by have := HX.out; show _ ∨ _; omega⟩
        case measure => decide
    · rw [show ((lR 4 : Nat) : Int) = 7 from rfl, show (257 : Int) + ((4 : Nat) : Int) = 261 from rfl]
      by_cases hx : x = 261
      · subst hx
        go_wp2
        go_ret3
        exact ⟨rfl, rfl⟩
      · have hx1 : ¬ (261 : Int) = x := fun h => hx h.symm
        have hx2 : ((261 : Int) == x) = false := by simpa using hx1
        go_wp2
        go_roundw
        case rel => exact ⟨5, by omega, rfl, rfl, rfl, by have := HX.out; show _ ∨ _; omega⟩
        case measure => decide
    · rw [show ((lR 5 : Nat) : Int) = 8 from rfl, show (257 : Int) + ((5 : Nat) : Int) = 262 from rfl]
      by_cases hx : x = 262
      · subst hx
        go_wp2
        go_ret3
        exact ⟨rfl, rfl⟩
      · have hx1 : ¬ (262 : Int) = x := fun h => hx h.symm
        have hx2 : ((262 : Int) == x) = false := by simpa using hx1
        go_wp2
        go_roundw
        case rel => exact ⟨6, by omega, rfl, rfl, rfl, by have := HX.out; show _ ∨ _; omega⟩
        case measure => decide
    · rw [show ((lR 6 : Nat) : Int) = 9 from rfl, show (257 : Int) + ((6 : Nat) : Int) = 263 from rfl]
      by_cases hx : x = 263
      · subst hx
        go_wp2
        go_ret3
        exact ⟨rfl, rfl⟩
      · have hx1 : ¬ (263 : Int) = x := fun h => hx h.symm
        have hx2 : ((263 : Int) == x) = false := by simpa using hx1
        go_wp2
        go_roundw
        case rel => exact ⟨7, by omega, rfl, rfl, rfl, by have := HX.out; show _ ∨ _; omega⟩
        case measure => decide
    · rw [show ((lR 7 : Nat) : Int) = 10 from rfl, show (257 : Int) + ((7 : Nat) : Int) = 264 from rfl]
      by_cases hx : x = 264
      · subst hx
        go_wp2
        go_ret3
        exact ⟨rfl, rfl⟩
      · have hx1 : ¬ (264 : Int) = x := fun h => hx h.symm
        have hx2 : ((264 : Int) == x) = false := by simpa using hx1
        go_wp2
        go_roundw
        case rel => exact ⟨8, by omega, rfl, rfl, rfl, by have := HX.out; show _ ∨ _; omega⟩
        case measure => decide
    · rw [show ((lR 8 : Nat) : Int) = 11 from rfl, show (257 : Int) + ((8 : Nat) : Int) = 265 from rfl]
      by_cases hx : x = 265
      · subst hx
        go_wp2
        go_ret3
        exact ⟨rfl, rfl⟩
      · have hx1 : ¬ (265 : Int) = x := fun h => hx h.symm
        have hx2 : ((265 : Int) == x) = false := by simpa using hx1
        go_wp2
        go_roundw
        case rel => exact ⟨9, by omega, rfl, rfl, rfl, by have := HX.out; show _ ∨ _; omega⟩
        case measure => decide
    · rw [show ((lR 9 : Nat) : Int) = 13 from rfl, show (257 : Int) + ((9 : Nat) : Int) = 266 from rfl]
      by_cases hx : x = 266
      · subst hx
        go_wp2
        go_ret3
        exact ⟨rfl, rfl⟩
      · have hx1 : ¬ (266 : Int) = x := fun h => hx h.symm
        have hx2 : ((266 : Int) == x) = false := by simpa using hx1
        go_wp2
        go_roundw
        case rel => exact ⟨10, by omega, rfl, rfl, rfl, by have := HX.out; show _ ∨ _; omega⟩
        case measure => decide
    · rw [show ((lR 10 : Nat) : Int) = 15 from rfl, show (257 : Int) + ((10 : Nat) : Int) = 267 from rfl]
      by_cases hx : x = 267
      · subst hx
        go_wp2
        go_ret3
        exact ⟨rfl, rfl⟩
      · have hx1 : ¬ (267 : Int) = x := fun h => hx h.symm
        have hx2 : ((267 : Int) == x) = false := by simpa using hx1
        go_wp2
        go_roundw
        case rel => exact ⟨11, by omega, rfl, rfl, rfl, by have := HX.out; show _ ∨ _; omega⟩
        case measure => decide
    · rw [show ((lR 11 : Nat) : Int) = 17 from rfl, show (257 : Int) + ((11 : Nat) : Int) = 268 from rfl]
      by_cases hx : x = 268
      · subst hx
        go_wp2
        go_ret3
        exact ⟨rfl, rfl⟩
      · have hx1 : ¬ (268 : Int) = x := fun h => hx h.symm
        have hx2 : ((268 : Int) == x) = false := by simpa using hx1
        go_wp2
        go_roundw
        case rel => exact ⟨12, by omega, rfl, rfl, rfl, by have := HX.out; show _ ∨ _; omega⟩
        case measure => decide
    · rw [show ((lR 12 : Nat) : Int) = 19 from rfl, show (257 : Int) + ((12 : Nat) : Int) = 269 from rfl]
      by_cases hx : x = 269
      · subst hx
        go_wp2
        go_ret3
        exact ⟨rfl, rfl⟩
      · have hx1 : ¬ (269 : Int) = x := fun h => hx h.symm
        have hx2 : ((269 : Int) == x) = false := by simpa using hx1
        go_wp2
        go_roundw
        case rel => exact ⟨13, by omega, rfl, rfl, rfl, by have := HX.out; show _ ∨ _; omega⟩
        case measure => decide
    · rw [show ((lR 13 : Nat) : Int) = 23 from rfl, show (257 : Int) + ((13 : Nat) : Int) = 270 from rfl]
      by_cases hx : x = 270
      · subst hx
        go_wp2
        go_ret3
        exact ⟨rfl, rfl⟩
      · have hx1 : ¬ (270 : Int) = x := fun h => hx h.symm
        have hx2 : ((270 : Int) == x) = false := by simpa using hx1
        go_wp2
        go_roundw
        case rel => exact ⟨14, by omega, rfl, rfl, rfl, by have := HX.out; show _ ∨ _; omega⟩
        case measure => decide
    · rw [show ((lR 14 : Nat) : Int) = 27 from rfl, show (257 : Int) + ((14 : Nat) : Int) = 271 from rfl]
      by_cases hx : x = 271
      · subst hx
        go_wp2
        go_ret3
        exact ⟨rfl, rfl⟩
      · have hx1 : ¬ (271 : Int) = x := fun h => hx h.symm
        have hx2 : ((271 : Int) == x) = false := by simpa using hx1
        go_wp2
        go_roundw
        case rel => exact ⟨15, by omega, rfl, rfl, rfl, by have := HX.out; show _ ∨ _; omega⟩
        case measure => decide
    · rw [show ((lR 15 : Nat) : Int) = 31 from rfl, show (257 : Int) + ((15 : Nat) : Int) = 272 from rfl]
      by_cases hx : x = 272
      · subst hx
        go_wp2
        go_ret3
        exact ⟨rfl, rfl⟩
      · have hx1 : ¬ (272 : Int) = x := fun h => hx h.symm
        have hx2 : ((272 : Int) == x) = false := by simpa using hx1
        go_wp2
        go_roundw
        case rel => exact ⟨16, by omega, rfl, rfl, rfl, by have := HX.out; show _ ∨ _; omega⟩
        case measure => decide
    · rw [show ((lR 16 : Nat) : Int) = 35 from rfl, show (257 : Int) + ((16 : Nat) : Int) = 273 from rfl]
      by_cases hx : x = 273
      · subst hx
        go_wp2
        go_ret3
        exact ⟨rfl, rfl⟩
      · have hx1 : ¬ (273 : Int) = x := fun h => hx h.symm
        have hx2 : ((273 : Int) == x) = false := by simpa using hx1
        go_wp2
        go_roundw
        case rel => exact ⟨17, by omega, rfl, rfl, rfl, by have := HX.out; show _ ∨ _; omega⟩
        case measure => decide
    · rw [show ((lR 17 : Nat) : Int) = 43 from rfl, show (257 : Int) + ((17 : Nat) : Int) = 274 from rfl]
      by_cases hx : x = 274
      · subst hx
        go_wp2
        go_ret3
        exact ⟨rfl, rfl⟩
      · have hx1 : ¬ (274 : Int) = x := fun h => hx h.symm
        have hx2 : ((274 : Int) == x) = false := by simpa using hx1
        go_wp2
        go_roundw
        case rel => exact ⟨18, by omega, rfl, rfl, rfl, by have := HX.out; show _ ∨ _; omega⟩
        case measure => decide
    · rw [show ((lR 18 : Nat) : Int) = 51 from rfl, show (257 : Int) + ((18 : Nat) : Int) = 275 from rfl]
      by_cases hx : x = 275
      · subst hx
        go_wp2
        go_ret3
        exact ⟨rfl, rfl⟩
      · have hx1 : ¬ (275 : Int) = x := fun h => hx h.symm
        have hx2 : ((275 : Int) == x) = false := by simpa using hx1
        go_wp2
        go_roundw
        case rel => exact ⟨19, by omega, rfl, rfl, rfl, by have := HX.out; show _ ∨ _; omega⟩
        case measure => decide
    · rw [show ((lR 19 : Nat) : Int) = 59 from rfl, show (257 : Int) + ((19 : Nat) : Int) = 276 from rfl]
      by_cases hx : x = 276
      · subst hx
        go_wp2
        go_ret3
        exact ⟨rfl, rfl⟩
      · have hx1 : ¬ (276 : Int) = x := fun h => hx h.symm
        have hx2 : ((276 : Int) == x) = false := by simpa using hx1
        go_wp2
        go_roundw
        case rel => exact ⟨20, by omega, rfl, rfl, rfl, by have := HX.out; show _ ∨ _; omega⟩
        case measure => decide
    · rw [show ((lR 20 : Nat) : Int) = 67 from rfl, show (257 : Int) + ((20 : Nat) : Int) = 277 from rfl]
      by_cases hx : x = 277
      · subst hx
        go_wp2
        go_ret3
        exact ⟨rfl, rfl⟩
      · have hx1 : ¬ (277 : Int) = x := fun h => hx h.symm
        have hx2 : ((277 : Int) == x) = false := by simpa using hx1
        go_wp2
        go_roundw
        case rel => exact ⟨21, by omega, rfl, rfl, rfl, by have := HX.out; show _ ∨ _; omega⟩
        case measure => decide
    · rw [show ((lR 21 : Nat) : Int) = 83 from rfl, show (257 : Int) + ((21 : Nat) : Int) = 278 from rfl]
      by_cases hx : x = 278
      · subst hx
        go_wp2
        go_ret3
        exact ⟨rfl, rfl⟩
      · have hx1 : ¬ (278 : Int) = x := fun h => hx h.symm
        have hx2 : ((278 : Int) == x) = false := by simpa using hx1
        go_wp2
        go_roundw
        case rel => exact ⟨22, by omega, rfl, rfl, rfl, by have := HX.out; show _ ∨ _; omega⟩
        case measure => decide
    · rw [show ((lR 22 : Nat) : Int) = 99 from rfl, show (257 : Int) + ((22 : Nat) : Int) = 279 from rfl]
      by_cases hx : x = 279
      · subst hx
        go_wp2
        go_ret3
        exact ⟨rfl, rfl⟩
      · have hx1 : ¬ (279 : Int) = x := fun h => hx h.symm
        have hx2 : ((279 : Int) == x) = false := by simpa using hx1
        go_wp2
        go_roundw
        case rel => exact ⟨23, by omega, rfl, rfl, rfl, by have := HX.out; show _ ∨ _; omega⟩
        case measure => decide
    · rw [show ((lR 23 : Nat) : Int) = 115 from rfl, show (257 : Int) + ((23 : Nat) : Int) = 280 from rfl]
      by_cases hx : x = 280
      · subst hx
        go_wp2
        go_ret3
        exact ⟨rfl, rfl⟩
      · have hx1 : ¬ (280 : Int) = x := fun h => hx h.symm
        have hx2 : ((280 : Int) == x) = false := by simpa using hx1
        go_wp2
        go_roundw
        case rel => exact ⟨24, by omega, rfl, rfl, rfl, by have := HX.out; show _ ∨ _; omega⟩
        case measure => decide
    · rw [show ((lR 24 : Nat) : Int) = 131 from rfl, show (257 : Int) + ((24 : Nat) : Int) = 281 from rfl]
      by_cases hx : x = 281
      · subst hx
        go_wp2
        go_ret3
        exact ⟨rfl, rfl⟩
      · have hx1 : ¬ (281 : Int) = x := fun h => hx h.symm
        have hx2 : ((281 : Int) == x) = false := by simpa using hx1
        go_wp2
        go_roundw
        case rel => exact ⟨25, by omega, rfl, rfl, rfl, by have := HX.out; show _ ∨ _; omega⟩
        case measure => decide
    · rw [show ((lR 25 : Nat) : Int) = 163 from rfl, show (257 : Int) + ((25 : Nat) : Int) = 282 from rfl]
      by_cases hx : x = 282
      · subst hx
        go_wp2
        go_ret3
        exact ⟨rfl, rfl⟩
      · have hx1 : ¬ (282 : Int) = x := fun h => hx h.symm
        have hx2 : ((282 : Int) == x) = false := by simpa using hx1
        go_wp2
        go_roundw
        case rel => exact ⟨26, by omega, rfl, rfl, rfl, by have := HX.out; show _ ∨ _; omega⟩
        case measure => decide
    · rw [show ((lR 26 : Nat) : Int) = 195 from rfl, show (257 : Int) + ((26 : Nat) : Int) = 283 from rfl]
      by_cases hx : x = 283
      · subst hx
        go_wp2
        go_ret3
        exact ⟨rfl, rfl⟩
      · have hx1 : ¬ (283 : Int) = x := fun h => hx h.symm
        have hx2 : ((283 : Int) == x) = false := by simpa using hx1
        go_wp2
        go_roundw
        case rel => exact ⟨27, by omega, rfl, rfl, rfl, by have := HX.out; show _ ∨ _; omega⟩
        case measure => decide
    · rw [show ((lR 27 : Nat) : Int) = 227 from rfl, show (257 : Int) + ((27 : Nat) : Int) = 284 from rfl]
      by_cases hx : x = 284
      · subst hx
        go_wp2
        go_ret3
        exact ⟨rfl, rfl⟩
      · have hx1 : ¬ (284 : Int) = x := fun h => hx h.symm
        have hx2 : ((284 : Int) == x) = false := by simpa using hx1
        go_wp2
        go_roundw
        case rel => exact ⟨28, by omega, rfl, rfl, rfl, by have := HX.out; show _ ∨ _; omega⟩
        case measure => decide
    · rw [show ((lR 28 : Nat) : Int) = 259 from rfl, show (257 : Int) + ((28 : Nat) : Int) = 285 from rfl]
      by_cases hx : x = 285
      · subst hx
        go_wp2
        go_ret3
        exact ⟨rfl, rfl⟩
      · have hx1 : (x == 285) = false := by simpa using hx
        go_wp2
        go_ret3
        rw [HN.out (by have := HX.out; omega)]
        exact ⟨rfl, rfl⟩
def distsV (x : Int) : Value := if 0 ≤ x ∧ x ≤ 29 then .tuple #[.int .i64 ((dB (x - 0).toNat : Nat) : Int), .int .i64 ((dE (x - 0).toNat : Nat) : Int), .bool true] else .tuple #[.int .i64 0, .int .i64 0, .bool false]
def distsRel (x : Int) (w : World) (b i : Value) (wr : World) : Prop := ∃ j : Nat, j ≤ 30 ∧ i = .int .i64 (0 + (j : Int)) ∧ b = .int .i64 ((dB j : Nat) : Int) ∧ wr = w ∧ Hid (x < 0 ∨ 0 + (j : Int) ≤ x)
set_option maxHeartbeats 16000000 in
theorem dists_any (x : Int) (w : World) : Calls Try.prog 37 #[.int .i64 x] w fun e w' => e = .returned (distsV x) ∧ w = w' := by
  have hnone : x < 0 ∨ 29 < x → distsV x = .tuple #[.int .i64 0, .int .i64 0, .bool false] := fun h => by unfold distsV; rw [if_neg (by omega)]
  have HN := Lib.hid hnone
  clear hnone
  go_enter Try.func37, Try.ntmps37
  go_wp2
  go_loopw [5, 6] (distsRel x w) (fun _ i _ => 30 - (intOf i - 0).toNat)
  case atStart => exact ⟨0, by omega, rfl, rfl, rfl, by show _ ∨ _; omega⟩
  case round =>
    obtain ⟨j, hj, rfl, rfl, rfl, HX⟩ := hrel
    have h : j = 0 ∨ j = 1 ∨ j = 2 ∨ j = 3 ∨ j = 4 ∨ j = 5 ∨ j = 6 ∨ j = 7 ∨ j = 8 ∨ j = 9 ∨ j = 10 ∨ j = 11 ∨ j = 12 ∨ j = 13 ∨ j = 14 ∨ j = 15 ∨ j = 16 ∨ j = 17 ∨ j = 18 ∨ j = 19 ∨ j = 20 ∨ j = 21 ∨ j = 22 ∨ j = 23 ∨ j = 24 ∨ j = 25 ∨ j = 26 ∨ j = 27 ∨ j = 28 ∨ j = 29 ∨ j = 30 := by omega
    clear hj
    rcases h with rfl | rfl | rfl | rfl | rfl | rfl | rfl | rfl | rfl | rfl | rfl | rfl | rfl | rfl | rfl | rfl | rfl | rfl | rfl | rfl | rfl | rfl | rfl | rfl | rfl | rfl | rfl | rfl | rfl | rfl | rfl
    · rw [show ((dB 0 : Nat) : Int) = 1 from rfl, show (0 : Int) + ((0 : Nat) : Int) = 0 from rfl]
      by_cases hx : x = 0
      · subst hx
        go_wp2
        go_ret3
        exact ⟨rfl, rfl⟩
      · have hx1 : ¬ (0 : Int) = x := fun h => hx h.symm
        have hx2 : ((0 : Int) == x) = false := by simpa using hx1
        go_wp2
        go_roundw
        case rel => exact ⟨1, by omega, rfl, rfl, rfl, by have := HX.out; show _ ∨ _; omega⟩
        case measure => decide
    · rw [show ((dB 1 : Nat) : Int) = 2 from rfl, show (0 : Int) + ((1 : Nat) : Int) = 1 from rfl]
      by_cases hx : x = 1
      · subst hx
        go_wp2
        go_ret3
        exact ⟨rfl, rfl⟩
      · have hx1 : ¬ (1 : Int) = x := fun h => hx h.symm
        have hx2 : ((1 : Int) == x) = false := by simpa using hx1
        go_wp2
        go_roundw
        case rel => exact ⟨2, by omega, rfl, rfl, rfl, by have := HX.out; show _ ∨ _; omega⟩
        case measure => decide
    · rw [show ((dB 2 : Nat) : Int) = 3 from rfl, show (0 : Int) + ((2 : Nat) : Int) = 2 from rfl]
      by_cases hx : x = 2
      · subst hx
        go_wp2
        go_ret3
        exact ⟨rfl, rfl⟩
      · have hx1 : ¬ (2 : Int) = x := fun h => hx h.symm
        have hx2 : ((2 : Int) == x) = false := by simpa using hx1
        go_wp2
        go_roundw
        case rel => exact ⟨3, by omega, rfl, rfl, rfl, by have := HX.out; show _ ∨ _; omega⟩
        case measure => decide
    · rw [show ((dB 3 : Nat) : Int) = 4 from rfl, show (0 : Int) + ((3 : Nat) : Int) = 3 from rfl]
      by_cases hx : x = 3
      · subst hx
        go_wp2
        go_ret3
        exact ⟨rfl, rfl⟩
      · have hx1 : ¬ (3 : Int) = x := fun h => hx h.symm
        have hx2 : ((3 : Int) == x) = false := by simpa using hx1
        go_wp2
        go_roundw
        case rel => exact ⟨4, by omega, rfl, rfl, rfl, by have := HX.out; show _ ∨ _; omega⟩
        case measure => decide
    · rw [show ((dB 4 : Nat) : Int) = 5 from rfl, show (0 : Int) + ((4 : Nat) : Int) = 4 from rfl]
      by_cases hx : x = 4
      · subst hx
        go_wp2
        go_ret3
        exact ⟨rfl, rfl⟩
      · have hx1 : ¬ (4 : Int) = x := fun h => hx h.symm
        have hx2 : ((4 : Int) == x) = false := by simpa using hx1
        go_wp2
        go_roundw
        case rel => exact ⟨5, by omega, rfl, rfl, rfl, by have := HX.out; show _ ∨ _; omega⟩
        case measure => decide
    · rw [show ((dB 5 : Nat) : Int) = 7 from rfl, show (0 : Int) + ((5 : Nat) : Int) = 5 from rfl]
      by_cases hx : x = 5
      · subst hx
        go_wp2
        go_ret3
        exact ⟨rfl, rfl⟩
      · have hx1 : ¬ (5 : Int) = x := fun h => hx h.symm
        have hx2 : ((5 : Int) == x) = false := by simpa using hx1
        go_wp2
        go_roundw
        case rel => exact ⟨6, by omega, rfl, rfl, rfl, by have := HX.out; show _ ∨ _; omega⟩
        case measure => decide
    · rw [show ((dB 6 : Nat) : Int) = 9 from rfl, show (0 : Int) + ((6 : Nat) : Int) = 6 from rfl]
      by_cases hx : x = 6
      · subst hx
        go_wp2
        go_ret3
        exact ⟨rfl, rfl⟩
      · have hx1 : ¬ (6 : Int) = x := fun h => hx h.symm
        have hx2 : ((6 : Int) == x) = false := by simpa using hx1
        go_wp2
        go_roundw
        case rel => exact ⟨7, by omega, rfl, rfl, rfl, by have := HX.out; show _ ∨ _; omega⟩
        case measure => decide
    · rw [show ((dB 7 : Nat) : Int) = 13 from rfl, show (0 : Int) + ((7 : Nat) : Int) = 7 from rfl]
      by_cases hx : x = 7
      · subst hx
        go_wp2
        go_ret3
        exact ⟨rfl, rfl⟩
      · have hx1 : ¬ (7 : Int) = x := fun h => hx h.symm
        have hx2 : ((7 : Int) == x) = false := by simpa using hx1
        go_wp2
        go_roundw
        case rel => exact ⟨8, by omega, rfl, rfl, rfl, by have := HX.out; show _ ∨ _; omega⟩
        case measure => decide
    · rw [show ((dB 8 : Nat) : Int) = 17 from rfl, show (0 : Int) + ((8 : Nat) : Int) = 8 from rfl]
      by_cases hx : x = 8
      · subst hx
        go_wp2
        go_ret3
        exact ⟨rfl, rfl⟩
      · have hx1 : ¬ (8 : Int) = x := fun h => hx h.symm
        have hx2 : ((8 : Int) == x) = false := by simpa using hx1
        go_wp2
        go_roundw
        case rel => exact ⟨9, by omega, rfl, rfl, rfl, by have := HX.out; show _ ∨ _; omega⟩
        case measure => decide
    · rw [show ((dB 9 : Nat) : Int) = 25 from rfl, show (0 : Int) + ((9 : Nat) : Int) = 9 from rfl]
      by_cases hx : x = 9
      · subst hx
        go_wp2
        go_ret3
        exact ⟨rfl, rfl⟩
      · have hx1 : ¬ (9 : Int) = x := fun h => hx h.symm
        have hx2 : ((9 : Int) == x) = false := by simpa using hx1
        go_wp2
        go_roundw
        case rel => exact ⟨10, by omega, rfl, rfl, rfl, by have := HX.out; show _ ∨ _; omega⟩
        case measure => decide
    · rw [show ((dB 10 : Nat) : Int) = 33 from rfl, show (0 : Int) + ((10 : Nat) : Int) = 10 from rfl]
      by_cases hx : x = 10
      · subst hx
        go_wp2
        go_ret3
        exact ⟨rfl, rfl⟩
      · have hx1 : ¬ (10 : Int) = x := fun h => hx h.symm
        have hx2 : ((10 : Int) == x) = false := by simpa using hx1
        go_wp2
        go_roundw
        case rel => exact ⟨11, by omega, rfl, rfl, rfl, by have := HX.out; show _ ∨ _; omega⟩
        case measure => decide
    · rw [show ((dB 11 : Nat) : Int) = 49 from rfl, show (0 : Int) + ((11 : Nat) : Int) = 11 from rfl]
      by_cases hx : x = 11
      · subst hx
        go_wp2
        go_ret3
        exact ⟨rfl, rfl⟩
      · have hx1 : ¬ (11 : Int) = x := fun h => hx h.symm
        have hx2 : ((11 : Int) == x) = false := by simpa using hx1
        go_wp2
        go_roundw
        case rel => exact ⟨12, by omega, rfl, rfl, rfl, by have := HX.out; show _ ∨ _; omega⟩
        case measure => decide
    · rw [show ((dB 12 : Nat) : Int) = 65 from rfl, show (0 : Int) + ((12 : Nat) : Int) = 12 from rfl]
      by_cases hx : x = 12
      · subst hx
        go_wp2
        go_ret3
        exact ⟨rfl, rfl⟩
      · have hx1 : ¬ (12 : Int) = x := fun h => hx h.symm
        have hx2 : ((12 : Int) == x) = false := by simpa using hx1
        go_wp2
        go_roundw
        case rel => exact ⟨13, by omega, rfl, rfl, rfl, by have := HX.out; show _ ∨ _; omega⟩
        case measure => decide
    · rw [show ((dB 13 : Nat) : Int) = 97 from rfl, show (0 : Int) + ((13 : Nat) : Int) = 13 from rfl]
      by_cases hx : x = 13
      · subst hx
        go_wp2
        go_ret3
        exact ⟨rfl, rfl⟩
      · have hx1 : ¬ (13 : Int) = x := fun h => hx h.symm
        have hx2 : ((13 : Int) == x) = false := by simpa using hx1
        go_wp2
        go_roundw
        case rel => exact ⟨14, by omega, rfl, rfl, rfl, by have := HX.out; show _ ∨ _; omega⟩
        case measure => decide
    · rw [show ((dB 14 : Nat) : Int) = 129 from rfl, show (0 : Int) + ((14 : Nat) : Int) = 14 from rfl]
      by_cases hx : x = 14
      · subst hx
        go_wp2
        go_ret3
        exact ⟨rfl, rfl⟩
      · have hx1 : ¬ (14 : Int) = x := fun h => hx h.symm
        have hx2 : ((14 : Int) == x) = false := by simpa using hx1
        go_wp2
        go_roundw
        case rel => exact ⟨15, by omega, rfl, rfl, rfl, by have := HX.out; show _ ∨ _; omega⟩
        case measure => decide
    · rw [show ((dB 15 : Nat) : Int) = 193 from rfl, show (0 : Int) + ((15 : Nat) : Int) = 15 from rfl]
      by_cases hx : x = 15
      · subst hx
        go_wp2
        go_ret3
        exact ⟨rfl, rfl⟩
      · have hx1 : ¬ (15 : Int) = x := fun h => hx h.symm
        have hx2 : ((15 : Int) == x) = false := by simpa using hx1
        go_wp2
        go_roundw
        case rel => exact ⟨16, by omega, rfl, rfl, rfl, by have := HX.out; show _ ∨ _; omega⟩
        case measure => decide
    · rw [show ((dB 16 : Nat) : Int) = 257 from rfl, show (0 : Int) + ((16 : Nat) : Int) = 16 from rfl]
      by_cases hx : x = 16
      · subst hx
        go_wp2
        go_ret3
        exact ⟨rfl, rfl⟩
      · have hx1 : ¬ (16 : Int) = x := fun h => hx h.symm
        have hx2 : ((16 : Int) == x) = false := by simpa using hx1
        go_wp2
        go_roundw
        case rel => exact ⟨17, by omega, rfl, rfl, rfl, by have := HX.out; show _ ∨ _; omega⟩
        case measure => decide
    · rw [show ((dB 17 : Nat) : Int) = 385 from rfl, show (0 : Int) + ((17 : Nat) : Int) = 17 from rfl]
      by_cases hx : x = 17
      · subst hx
        go_wp2
        go_ret3
        exact ⟨rfl, rfl⟩
      · have hx1 : ¬ (17 : Int) = x := fun h => hx h.symm
        have hx2 : ((17 : Int) == x) = false := by simpa using hx1
        go_wp2
        go_roundw
        case rel => exact ⟨18, by omega, rfl, rfl, rfl, by have := HX.out; show _ ∨ _; omega⟩
        case measure => decide
    · rw [show ((dB 18 : Nat) : Int) = 513 from rfl, show (0 : Int) + ((18 : Nat) : Int) = 18 from rfl]
      by_cases hx : x = 18
      · subst hx
        go_wp2
        go_ret3
        exact ⟨rfl, rfl⟩
      · have hx1 : ¬ (18 : Int) = x := fun h => hx h.symm
        have hx2 : ((18 : Int) == x) = false := by simpa using hx1
        go_wp2
        go_roundw
        case rel => exact ⟨19, by omega, rfl, rfl, rfl, by have := HX.out; show _ ∨ _; omega⟩
        case measure => decide
    · rw [show ((dB 19 : Nat) : Int) = 769 from rfl, show (0 : Int) + ((19 : Nat) : Int) = 19 from rfl]
      by_cases hx : x = 19
      · subst hx
        go_wp2
        go_ret3
        exact ⟨rfl, rfl⟩
      · have hx1 : ¬ (19 : Int) = x := fun h => hx h.symm
        have hx2 : ((19 : Int) == x) = false := by simpa using hx1
        go_wp2
        go_roundw
        case rel => exact ⟨20, by omega, rfl, rfl, rfl, by have := HX.out; show _ ∨ _; omega⟩
        case measure => decide
    · rw [show ((dB 20 : Nat) : Int) = 1025 from rfl, show (0 : Int) + ((20 : Nat) : Int) = 20 from rfl]
      by_cases hx : x = 20
      · subst hx
        go_wp2
        go_ret3
        exact ⟨rfl, rfl⟩
      · have hx1 : ¬ (20 : Int) = x := fun h => hx h.symm
        have hx2 : ((20 : Int) == x) = false := by simpa using hx1
        go_wp2
        go_roundw
        case rel => exact ⟨21, by omega, rfl, rfl, rfl, by have := HX.out; show _ ∨ _; omega⟩
        case measure => decide
    · rw [show ((dB 21 : Nat) : Int) = 1537 from rfl, show (0 : Int) + ((21 : Nat) : Int) = 21 from rfl]
      by_cases hx : x = 21
      · subst hx
        go_wp2
        go_ret3
        exact ⟨rfl, rfl⟩
      · have hx1 : ¬ (21 : Int) = x := fun h => hx h.symm
        have hx2 : ((21 : Int) == x) = false := by simpa using hx1
        go_wp2
        go_roundw
        case rel => exact ⟨22, by omega, rfl, rfl, rfl, by have := HX.out; show _ ∨ _; omega⟩
        case measure => decide
    · rw [show ((dB 22 : Nat) : Int) = 2049 from rfl, show (0 : Int) + ((22 : Nat) : Int) = 22 from rfl]
      by_cases hx : x = 22
      · subst hx
        go_wp2
        go_ret3
        exact ⟨rfl, rfl⟩
      · have hx1 : ¬ (22 : Int) = x := fun h => hx h.symm
        have hx2 : ((22 : Int) == x) = false := by simpa using hx1
        go_wp2
        go_roundw
        case rel => exact ⟨23, by omega, rfl, rfl, rfl, by have := HX.out; show _ ∨ _; omega⟩
        case measure => decide
    · rw [show ((dB 23 : Nat) : Int) = 3073 from rfl, show (0 : Int) + ((23 : Nat) : Int) = 23 from rfl]
      by_cases hx : x = 23
      · subst hx
        go_wp2
        go_ret3
        exact ⟨rfl, rfl⟩
      · have hx1 : ¬ (23 : Int) = x := fun h => hx h.symm
        have hx2 : ((23 : Int) == x) = false := by simpa using hx1
        go_wp2
        go_roundw
        case rel => exact ⟨24, by omega, rfl, rfl, rfl, by have := HX.out; show _ ∨ _; omega⟩
        case measure => decide
    · rw [show ((dB 24 : Nat) : Int) = 4097 from rfl, show (0 : Int) + ((24 : Nat) : Int) = 24 from rfl]
      by_cases hx : x = 24
      · subst hx
        go_wp2
        go_ret3
        exact ⟨rfl, rfl⟩
      · have hx1 : ¬ (24 : Int) = x := fun h => hx h.symm
        have hx2 : ((24 : Int) == x) = false := by simpa using hx1
        go_wp2
        go_roundw
        case rel => exact ⟨25, by omega, rfl, rfl, rfl, by have := HX.out; show _ ∨ _; omega⟩
        case measure => decide
    · rw [show ((dB 25 : Nat) : Int) = 6145 from rfl, show (0 : Int) + ((25 : Nat) : Int) = 25 from rfl]
      by_cases hx : x = 25
      · subst hx
        go_wp2
        go_ret3
        exact ⟨rfl, rfl⟩
      · have hx1 : ¬ (25 : Int) = x := fun h => hx h.symm
        have hx2 : ((25 : Int) == x) = false := by simpa using hx1
        go_wp2
        go_roundw
        case rel => exact ⟨26, by omega, rfl, rfl, rfl, by have := HX.out; show _ ∨ _; omega⟩
        case measure => decide
    · rw [show ((dB 26 : Nat) : Int) = 8193 from rfl, show (0 : Int) + ((26 : Nat) : Int) = 26 from rfl]
      by_cases hx : x = 26
      · subst hx
        go_wp2
        go_ret3
        exact ⟨rfl, rfl⟩
      · have hx1 : ¬ (26 : Int) = x := fun h => hx h.symm
        have hx2 : ((26 : Int) == x) = false := by simpa using hx1
        go_wp2
        go_roundw
        case rel => exact ⟨27, by omega, rfl, rfl, rfl, by have := HX.out; show _ ∨ _; omega⟩
        case measure => decide
    · rw [show ((dB 27 : Nat) : Int) = 12289 from rfl, show (0 : Int) + ((27 : Nat) : Int) = 27 from rfl]
      by_cases hx : x = 27
      · subst hx
        go_wp2
        go_ret3
        exact ⟨rfl, rfl⟩
      · have hx1 : ¬ (27 : Int) = x := fun h => hx h.symm
        have hx2 : ((27 : Int) == x) = false := by simpa using hx1
        go_wp2
        go_roundw
        case rel => exact ⟨28, by omega, rfl, rfl, rfl, by have := HX.out; show _ ∨ _; omega⟩
        case measure => decide
    · rw [show ((dB 28 : Nat) : Int) = 16385 from rfl, show (0 : Int) + ((28 : Nat) : Int) = 28 from rfl]
      by_cases hx : x = 28
      · subst hx
        go_wp2
        go_ret3
        exact ⟨rfl, rfl⟩
      · have hx1 : ¬ (28 : Int) = x := fun h => hx h.symm
        have hx2 : ((28 : Int) == x) = false := by simpa using hx1
        go_wp2
        go_roundw
        case rel => exact ⟨29, by omega, rfl, rfl, rfl, by have := HX.out; show _ ∨ _; omega⟩
        case measure => decide
    · rw [show ((dB 29 : Nat) : Int) = 24577 from rfl, show (0 : Int) + ((29 : Nat) : Int) = 29 from rfl]
      by_cases hx : x = 29
      · subst hx
        go_wp2
        go_ret3
        exact ⟨rfl, rfl⟩
      · have hx1 : ¬ (29 : Int) = x := fun h => hx h.symm
        have hx2 : ((29 : Int) == x) = false := by simpa using hx1
        go_wp2
        go_roundw
        case rel => exact ⟨30, by omega, rfl, rfl, rfl, by have := HX.out; show _ ∨ _; omega⟩
        case measure => decide
    · rw [show ((dB 30 : Nat) : Int) = 32769 from rfl, show (0 : Int) + ((30 : Nat) : Int) = 30 from rfl]
      go_wp2
      go_ret3
      rw [HN.out (by have := HX.out; omega)]
      exact ⟨rfl, rfl⟩
end Go.Proofs.Ytlgkiookobedcaa
namespace Go.Proofs.Ytlgkiookobedcaa
open Go.RowKit
set_option linter.unusedVariables false
def lenCodeRel (n : Int) (w : World) (i : Value) (wr : World) : Prop := ∃ (j : Nat) (x : Int), i = .int .i64 x ∧ Hid (x = 257 + (j : Int)) ∧ (257 ≤ x ∧ x ≤ 285) ∧ wr = w ∧ Hid (∀ i, j < i → i ≤ 28 → n < ((lB i : Nat) : Int))
set_option maxHeartbeats 4000000 in
theorem lenCode_any (n : Int) (w : World) : Calls Try.prog 63 #[.int .i64 n] w (CodePost lB lE 3 258 257 28 n w) := by
  by_cases hr : n < 3 ∨ 258 < n
  · have h : n < 3 ∨ (¬ n < 3 ∧ 258 < n) := by omega
    have hp : CodePost lB lE 3 258 257 28 n w (.returned (.tuple #[.int .i64 0, .int .i64 0, .int .i64 0])) w := ⟨⟨_, rfl, .inl ⟨hr, rfl⟩⟩, rfl⟩
    clear hr
    rcases h with h | ⟨h0, h⟩
    all_goals
      go_enter Try.func63, Try.ntmps63
      go_wp2
      go_ret3
      exact hp
  · have h1 : ¬ n < 3 ∧ ¬ 258 < n := by omega
    have hn : 3 ≤ n ∧ n ≤ 258 := by omega
    clear hr
    go_enter Try.func63, Try.ntmps63
    go_wp2
    go_loopw [2] (lenCodeRel n w) (fun i _ => (intOf i - 257).toNat)
    case atStart => exact ⟨28, 285, rfl, by show _ = _; rfl, by omega, rfl, fun i h1 h2 => by omega⟩
    case round =>
      obtain ⟨j, x, rfl, HX, hx, rfl, HA⟩ := hrel
      have hj : j < 29 := by have := HX.out; omega
      have hlB := lB_bdu j hj
      obtain ⟨b, hb⟩ : ∃ b : Int, ((lB j : Nat) : Int) = b := ⟨_, rfl⟩
      obtain ⟨q, hq⟩ : ∃ q : Int, ((lE j : Nat) : Int) = q := ⟨_, rfl⟩
      have hbb : 1 ≤ b ∧ b ≤ 32768 := by omega
      have HB := Lib.hid hb
      have HQ := Lib.hid hq
      clear hb hq hlB hj
      by_cases hle : b ≤ n
      · go_wp2_with fail
        refine (lenBase_code j (by have := HX.out; omega) x HX.out _).mono ?_
        rintro e w' ⟨rfl, rfl⟩
        rw [HB.out, HQ.out]
        go_wp2
        go_ret3
        refine ⟨⟨_, rfl, .inr ⟨hn, j, ⟨by have := HX.out; omega, by rw [HB.out]; exact hle, HA.out⟩, ?_⟩⟩, rfl⟩
        show Value.tuple #[.int .i64 x, .int .i64 q, .int .i64 (n - b)] = _
        rw [HB.out, HQ.out, ← HX.out]
      · have hlt : n < b := by omega
        have hx0 : 257 < x := by
          have h2 := HX.out
          have h3 := HB.out
          rcases Nat.eq_zero_or_pos j with rfl | hp
          · have h4 : lB 0 = 3 := rfl
            omega
          · omega
        go_wp2_with fail
        refine (lenBase_code j (by have := HX.out; omega) x HX.out _).mono ?_
        rintro e w' ⟨rfl, rfl⟩
        rw [HB.out, HQ.out]
        go_wp2
        go_roundw
        case rel =>
          refine ⟨j - 1, x - 1, rfl, ?_, by omega, rfl, ?_⟩
          · have := HX.out
            show _ = _
            omega
          · intro i h1 h2
            by_cases he : i = j
            · subst he; rw [HB.out]; exact hlt
            · exact HA.out i (by omega) h2
        case measure => simp [intOf]; omega
def distCodeRel (n : Int) (w : World) (i : Value) (wr : World) : Prop := ∃ (j : Nat) (x : Int), i = .int .i64 x ∧ Hid (x = 0 + (j : Int)) ∧ (0 ≤ x ∧ x ≤ 29) ∧ wr = w ∧ Hid (∀ i, j < i → i ≤ 29 → n < ((dB i : Nat) : Int))
set_option maxHeartbeats 4000000 in
theorem distCode_any (n : Int) (w : World) : Calls Try.prog 64 #[.int .i64 n] w (CodePost dB dE 1 32768 0 29 n w) := by
  by_cases hr : n < 1 ∨ 32768 < n
  · have h : n < 1 ∨ (¬ n < 1 ∧ 32768 < n) := by omega
    have hp : CodePost dB dE 1 32768 0 29 n w (.returned (.tuple #[.int .i64 0, .int .i64 0, .int .i64 0])) w := ⟨⟨_, rfl, .inl ⟨hr, rfl⟩⟩, rfl⟩
    clear hr
    rcases h with h | ⟨h0, h⟩
    all_goals
      go_enter Try.func64, Try.ntmps64
      go_wp2
      go_ret3
      exact hp
  · have h1 : ¬ n < 1 ∧ ¬ 32768 < n := by omega
    have hn : 1 ≤ n ∧ n ≤ 32768 := by omega
    clear hr
    go_enter Try.func64, Try.ntmps64
    go_wp2
    go_loopw [2] (distCodeRel n w) (fun i _ => (intOf i - 0).toNat)
    case atStart => exact ⟨29, 29, rfl, by show _ = _; rfl, by omega, rfl, fun i h1 h2 => by omega⟩
    case round =>
      obtain ⟨j, x, rfl, HX, hx, rfl, HA⟩ := hrel
      have hj : j < 30 := by have := HX.out; omega
      have hdB := dB_bdu j hj
      obtain ⟨b, hb⟩ : ∃ b : Int, ((dB j : Nat) : Int) = b := ⟨_, rfl⟩
      obtain ⟨q, hq⟩ : ∃ q : Int, ((dE j : Nat) : Int) = q := ⟨_, rfl⟩
      have hbb : 1 ≤ b ∧ b ≤ 32768 := by omega
      have HB := Lib.hid hb
      have HQ := Lib.hid hq
      clear hb hq hdB hj
      by_cases hle : b ≤ n
      · go_wp2_with fail
        refine (distBase_code j (by have := HX.out; omega) x HX.out _).mono ?_
        rintro e w' ⟨rfl, rfl⟩
        rw [HB.out, HQ.out]
        go_wp2
        go_ret3
        refine ⟨⟨_, rfl, .inr ⟨hn, j, ⟨by have := HX.out; omega, by rw [HB.out]; exact hle, HA.out⟩, ?_⟩⟩, rfl⟩
        show Value.tuple #[.int .i64 x, .int .i64 q, .int .i64 (n - b)] = _
        rw [HB.out, HQ.out, ← HX.out]
      · have hlt : n < b := by omega
        have hx0 : 0 < x := by
          have h2 := HX.out
          have h3 := HB.out
          rcases Nat.eq_zero_or_pos j with rfl | hp
          · have h4 : dB 0 = 1 := rfl
            omega
          · omega
        go_wp2_with fail
        refine (distBase_code j (by have := HX.out; omega) x HX.out _).mono ?_
        rintro e w' ⟨rfl, rfl⟩
        rw [HB.out, HQ.out]
        go_wp2
        go_roundw
        case rel =>
          refine ⟨j - 1, x - 1, rfl, ?_, by omega, rfl, ?_⟩
          · have := HX.out
            show _ = _
            omega
          · intro i h1 h2
            by_cases he : i = j
            · subst he; rw [HB.out]; exact hlt
            · exact HA.out i (by omega) h2
        case measure => simp [intOf]; omega
end Go.Proofs.Ytlgkiookobedcaa
namespace Go.Proofs.Ytlgkiookobedcaa
open Go.RowKit
set_option linter.unusedVariables false
theorem sum_step (s v : Nat) (hs : s ≤ 65536000) : wrap64 ((s : Int) + wrap64 (2 ^ (15 - v))) = ((s + p15 v : Nat) : Int) := by
  have h := p15_bd v
  rw [← p15_int, IntWalk.wrap64_in ((p15 v : Nat) : Int) (by omega), IntWalk.wrap64_in _ (by omega)]
  omega
theorem sum_any (A : Option Addr) (n c B : Nat) (l : List Int) (w : World) (hl : RdI .i64 w B A n l) (hn : n ≤ 1000) :
    Calls Try.prog 85 #[.slice A n c] w fun e w' => e = .returned (.int .i64 (sumTo l n)) ∧ w = w' := by
  go_enter Try.func85, Try.ntmps85
  go_wp2
  go_loop [3, 8] (fun s i => ∃ k : Nat, k ≤ n ∧ i = .int .i64 k ∧ s = .int .i64 (sumTo l k)) (fun _ i => n - (intOf i).toNat)
  case atStart => exact ⟨0, Nat.zero_le _, rfl, rfl⟩
  case round =>
    obtain ⟨k, hk, rfl, rfl⟩ := hrel
    have bd := sumTo_bd l k
    by_cases hlt : k < n
    · obtain ⟨a1, rfl, _, hc⟩ := hl.at_ hlt
      by_cases ht : 1 ≤ ix l k ∧ ix l k ≤ 15
      · obtain ⟨v, hv⟩ : ∃ v : Nat, ix l k = (v : Int) := ⟨(ix l k).toNat, by omega⟩
        have hs : sumTo l (k + 1) = sumTo l k + p15 v := by
          show sumTo l k + share (ix l k) = _
          rw [hv, share_yes (by omega) (by omega)]
        have HS := Lib.hid hs
        rw [hv] at hc ht
        have hb1 : (1 : Int) ≤ (v : Int) ∧ (v : Int) ≤ 15 := ht
        have b2 := p15_bd v
        clear hv hs
        go_wp2
        go_round
        case rel => exact ⟨k + 1, by omega, by go_num, by rw [HS.out, sum_step _ _ (by omega)]⟩
        case measure => simp [intOf]; omega
      · have hs : sumTo l (k + 1) = sumTo l k := by
          show sumTo l k + share (ix l k) = _
          rw [share_no ht]; rfl
        have HS := Lib.hid hs
        clear hs
        go_wp2
        all_goals
          go_round
          case rel => exact ⟨k + 1, by omega, by go_num, by rw [HS.out]⟩
          case measure => simp [intOf]; omega
    · obtain rfl : n = k := by omega
      go_wp2
      go_ret
      exact ⟨rfl, rfl⟩
end Go.Proofs.Ytlgkiookobedcaa
namespace Go.Proofs.Ytlgkiookobedcaa
open Go.RowKit
set_option linter.unusedVariables false
theorem lowTo_step {l : List Int} {k : Nat} (h : lowTo l k = true) (h1 : ix l k ≤ 1) : lowTo l (k + 1) = true := by
  unfold lowTo at *
  simp only [decide_eq_true_eq] at *
  intro i hi
  by_cases e : i = k
  · subst e; exact h1
  · exact h i (by omega)
theorem aloneB_no {l : List Int} {n k : Nat} (hk : k < n) (h : 1 < ix l k) : aloneB l n = false := by
  unfold aloneB lowTo
  rw [Bool.and_eq_false_iff]
  left
  rw [decide_eq_false_iff_not]
  intro hh
  have := hh k hk
  omega
theorem aloneB_of {l : List Int} {n : Nat} (h : lowTo l n = true) : aloneB l n = decide ((posTo l n : Int) ≤ 1) := by
  unfold aloneB
  rw [h, Bool.true_and]
  congr 1
  simp; omega
theorem alone_any (A : Option Addr) (n c B : Nat) (l : List Int) (w : World) (hl : RdI .i64 w B A n l) (hn : n ≤ 1000) :
    Calls Try.prog 86 #[.slice A n c] w fun e w' => e = .returned (.bool (aloneB l n)) ∧ w = w' := by
  go_enter Try.func86, Try.ntmps86
  go_wp2
  go_loop [3, 8] (fun s i => ∃ k : Nat, k ≤ n ∧ i = .int .i64 k ∧ s = .int .i64 (posTo l k) ∧ Hid (lowTo l k = true)) (fun _ i => n - (intOf i).toNat)
  case atStart => exact ⟨0, Nat.zero_le _, rfl, rfl, by simp [Hid, lowTo]⟩
  case round =>
    obtain ⟨k, hk, rfl, rfl, hlow⟩ := hrel
    have bd := posTo_le l k
    by_cases hlt : k < n
    · obtain ⟨a1, rfl, _, hc⟩ := hl.at_ hlt
      by_cases h0 : 0 < ix l k
      · have HS := Lib.hid (show posTo l (k + 1) = posTo l k + 1 by simp [posTo, h0])
        by_cases h1 : 1 < ix l k
        · have HN := Lib.hid (aloneB_no hlt h1)
          go_wp2
          go_ret
          exact ⟨ret_bool HN.out.symm, rfl⟩
        · go_wp2
          go_round
          case rel => exact ⟨k + 1, by omega, by go_num, by rw [HS.out]; go_num, lowTo_step hlow.out (by omega)⟩
          case measure => simp [intOf]; omega
      · have HS := Lib.hid (show posTo l (k + 1) = posTo l k by simp [posTo, h0])
        go_wp2
        go_round
        case rel => exact ⟨k + 1, by omega, by go_num, by rw [HS.out], lowTo_step hlow.out (by omega)⟩
        case measure => simp [intOf]; omega
    · obtain rfl : n = k := by omega
      go_wp2
      go_ret
      exact ⟨ret_bool (aloneB_of hlow.out).symm, rfl⟩
end Go.Proofs.Ytlgkiookobedcaa
