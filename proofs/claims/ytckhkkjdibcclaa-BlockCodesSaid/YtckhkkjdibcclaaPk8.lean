/-
  Several texts in one (written by pack2.py): Codes, DoneP, Tok.
-/
import Derived.Test.YtckhkkjdibcclaaProg
import Derived.Test.YtckhkkjdibcclaaPk1
/-
  The walk of code.Codes.
-/
namespace Go.Proofs.Ytckhkkjdibcclaa
open Go.RowKit
set_option linter.unusedVariables false

theorem codes_info : (Try.prog.info? 54).map (fun i => (i.zero, i.size, i.bytes)) = some (some (.int .u32 0), 1, 4) := by kernel_rfl

def cntV (l : List Int) (k : Nat) (v : Nat) : Value := .int .u32 (if 1 ≤ v then (cnt l k v : Nat) else 0 : Nat)
def nxtV (l : List Int) (k : Nat) (v : Nat) : Value := .int .u32 (if v < k then nxt l v else 0 : Nat)
def runV (l : List Int) (k : Nat) (v : Nat) : Value := .int .u32 (nxt l v + if 1 ≤ v then (cnt l k v : Nat) else 0 : Nat)
def outV (l : List Int) (k : Nat) (i : Nat) : Value := .int .u32 (if i < k then codeAt l i else 0 : Nat)

theorem cntV_zero (l : List Int) (v : Nat) : Value.int .u32 0 = cntV l 0 v := by unfold cntV; congr 1; simp [cnt]
theorem cntV_at (l : List Int) (k : Nat) {v : Nat} (h : 1 ≤ v) : cntV l k v = .int .u32 (cnt l k v : Nat) := by unfold cntV; rw [if_pos h]
theorem cntV_hit (l : List Int) (k : Nat) {v : Nat} (h : 1 ≤ v) (e : ix l k = (v : Int)) (j : Nat) : upd (cntV l k) v (.int .u32 ((cnt l k v : Int) + 1)) j = cntV l (k + 1) j := by
  by_cases hj : j = v
  · subst hj; rw [upd_same, cntV_at _ _ h]; congr 1; simp [cnt, e]
  · rw [upd_other _ _ hj]; unfold cntV; congr 3
    have : ¬ ix l k = (j : Int) := by rw [e]; omega
    simp [cnt, this]
theorem cntV_miss (l : List Int) (k : Nat) (h : ¬ (1 ≤ ix l k ∧ ix l k ≤ 15)) (j : Nat) (hj : j < 16) : cntV l k j = cntV l (k + 1) j := by
  unfold cntV
  by_cases h1 : 1 ≤ j
  · rw [if_pos h1, if_pos h1]
    have : ¬ ix l k = (j : Int) := by omega
    simp [cnt, this]
  · rw [if_neg h1, if_neg h1]
theorem nxtV_zero (l : List Int) (v : Nat) : Value.int .u32 0 = nxtV l 2 v := by
  unfold nxtV; congr 1; split
  · rename_i h; rcases v with _ | _ | v <;> simp [nxt]; omega
  · rfl
theorem nxtV_at (l : List Int) {k v : Nat} (h : v < k) : nxtV l k v = .int .u32 (nxt l v : Nat) := by unfold nxtV; rw [if_pos h]
theorem nxtV_hit (l : List Int) (n : Nat) {k : Nat} (h : 2 ≤ k) (hn : n = l.length) (j : Nat) : upd (nxtV l k) k (.int .u32 (2 * ((nxt l (k - 1) : Int) + (cnt l n (k - 1) : Int)))) j = nxtV l (k + 1) j := by
  subst hn
  by_cases hj : j = k
  · subst hj
    rw [upd_same, nxtV_at _ (by omega)]
    obtain ⟨q, rfl⟩ : ∃ q, j = q + 2 := ⟨j - 2, by omega⟩
    congr 1
  · rw [upd_other _ _ hj]; unfold nxtV; congr 2
    by_cases h' : j < k
    · rw [if_pos h', if_pos (by omega)]
    · rw [if_neg h', if_neg (by omega)]
theorem runV_of (l : List Int) (j : Nat) (hj : j < 16) : nxtV l 16 j = runV l 0 j := by
  rw [nxtV_at _ hj]; unfold runV; congr 1; simp [cnt]
theorem runV_at (l : List Int) (k : Nat) {v : Nat} (h : 1 ≤ v) : runV l k v = .int .u32 ((nxt l v + cnt l k v : Nat) : Int) := by unfold runV; rw [if_pos h]
theorem runV_hit (l : List Int) (k : Nat) {v : Nat} (h : 1 ≤ v) (e : ix l k = (v : Int)) (j : Nat) : upd (runV l k) v (.int .u32 (((nxt l v + cnt l k v : Nat) : Int) + 1)) j = runV l (k + 1) j := by
  by_cases hj : j = v
  · subst hj; rw [upd_same, runV_at _ _ h]; congr 1; simp [cnt, e]; omega
  · rw [upd_other _ _ hj]; unfold runV; congr 4
    have : ¬ ix l k = (j : Int) := by rw [e]; omega
    simp [cnt, this]
theorem runV_miss (l : List Int) (k : Nat) (h : ¬ (1 ≤ ix l k ∧ ix l k ≤ 15)) (j : Nat) (hj : j < 16) : runV l k j = runV l (k + 1) j := by
  unfold runV
  by_cases h1 : 1 ≤ j
  · rw [if_pos h1, if_pos h1]
    have : ¬ ix l k = (j : Int) := by omega
    simp [cnt, this]
  · rw [if_neg h1, if_neg h1]
theorem outV_zero (l : List Int) (v : Nat) : Value.int .u32 0 = outV l 0 v := by unfold outV; congr 1
theorem outV_hit (l : List Int) (k : Nat) {v : Nat} (h : 1 ≤ v) (h' : v ≤ 15) (e : ix l k = (v : Int)) (j : Nat) : upd (outV l k) k (.int .u32 ((nxt l v + cnt l k v : Nat) : Int)) j = outV l (k + 1) j := by
  by_cases hj : j = k
  · subst hj; rw [upd_same]; unfold outV codeAt isLen; rw [if_pos (by omega), e]; congr 1
    rw [if_pos (by simp; omega)]; simp
  · rw [upd_other _ _ hj]; unfold outV; congr 2
    by_cases h'' : j < k
    · rw [if_pos h'', if_pos (by omega)]
    · rw [if_neg h'', if_neg (by omega)]
theorem outV_miss (l : List Int) (k : Nat) (h : ¬ (1 ≤ ix l k ∧ ix l k ≤ 15)) (j : Nat) : outV l k j = outV l (k + 1) j := by
  unfold outV; congr 2
  by_cases hj : j = k
  · subst hj
    rw [if_neg (by omega), if_pos (by omega)]
    unfold codeAt isLen
    rw [if_neg (by simpa using h)]
  · by_cases h'' : j < k
    · rw [if_pos h'', if_pos (by omega)]
    · rw [if_neg h'', if_neg (by omega)]

set_option maxHeartbeats 1000000 in
theorem codes_at (A : Option Addr) (n c : Nat) (l : List Int) (w : World) (hl : RdI .i64 w w.heap.size A n l) (hn : n ≤ 288) :
    Calls Try.prog 67 #[.slice A n c] w fun e w' => e = .returned (.slice (some ⟨w.heap.size + 2, 0, none⟩) n n) ∧ RdI .u32 w' w'.heap.size (some ⟨w.heap.size + 2, 0, none⟩) n (codesOf l) ∧ Below w.heap.size w w' := by
  obtain ⟨i0, hi, hz0, hz1, hz2⟩ := info_parts codes_info
  have hln1 : n ≤ l.length ∧ l.length ≤ n := by have := hl.1; omega
  have hmk := fun W => run_make_zrow (P := Try.prog) 46 54 i0 (.int .u32 0) Try.underlying46 hi hz0 hz1 rfl .i64 .i64 n (by rw [hz2]; omega) (by omega) W
  have HM := Lib.hid hmk
  clear hmk hi hz0 hz1 hz2
  have hn1 : ¬ (288 < (n : Int)) := by omega
  go_enter Try.func67, Try.ntmps67
  go_wp2
  go_loopw [16] (fun i wr => ∃ k : Nat, k ≤ n ∧ i = .int .i64 k ∧ Ar wr w.heap.size 16 (cntV l k) ∧ Ar wr (w.heap.size + 1) 16 (fun _ => .int .u32 0) ∧ Sz wr (w.heap.size + 2) ∧ Below w.heap.size w wr) (fun i _ => n - (intOf i).toNat)
  case atStart =>
    have a1 : Ar (w.alloc (.cells (zrow 16 (.int .u32 0)) 115)) w.heap.size 16 _ := Ar.zeros w 16 (.int .u32 0) 115
    have a2 : Ar ((w.alloc (.cells (zrow 16 (.int .u32 0)) 115)).alloc (.cells (zrow 16 (.int .u32 0)) 115)) (w.heap.size + 1) 16 _ := Ar.zeros' 16 (.int .u32 0) 115 (by simp)
    exact ⟨0, Nat.zero_le _, rfl, (a1.alloc _).congr fun v _ => cntV_zero l v, a2, by simp [Sz], ((Below.refl _ _).alloc (Nat.le_refl _) _).alloc (by simp) _⟩
  case round =>
    obtain ⟨k, hk, rfl, h1, h2, HS, hb⟩ := hrel
    by_cases hlt : k < n
    · obtain ⟨a1, rfl, _, hc⟩ := (hl.below hb).at_ hlt
      by_cases ht : 1 ≤ ix l k ∧ ix l k ≤ 15
      · obtain ⟨v, hv⟩ : ∃ v : Nat, ix l k = (v : Int) := ⟨(ix l k).toNat, by omega⟩
        rw [hv] at hc ht
        have hb1 : (1 : Int) ≤ (v : Int) ∧ (v : Int) ≤ 15 := ht
        have c1 := h1.cell (i := v) (by omega)
        rw [cntV_at l k (by omega)] at c1
        have z1 := h1.frozen' (i := v) (by omega)
        have bd := cnt_le l k v
        have H := Lib.hid hv
        clear hv
        go_wp2
        go_roundw
        case rel => exact ⟨k + 1, by omega, by go_num, (h1.set_ (by omega) _).congr fun j _ => cntV_hit l k (by omega) H.out j, h2.far (by simp) _, HS.set_ _ _, hb.setCell (by simp) _⟩
        case measure => simp [intOf]; omega
      · go_wp2
        all_goals
          go_roundw
          case rel => exact ⟨k + 1, by omega, by go_num, h1.congr (cntV_miss l k ht), h2, HS, hb⟩
          case measure => simp [intOf]; omega
    · obtain rfl : n = k := by omega
      go_wp2
      obtain ⟨wo, rfl⟩ : ∃ wo : World, wo = wr := ⟨_, rfl⟩
      go_loopw [7] (fun i wr => ∃ k : Nat, 2 ≤ k ∧ k ≤ 16 ∧ i = .int .i64 k ∧ Ar wr w.heap.size 16 (cntV l n) ∧ Ar wr (w.heap.size + 1) 16 (nxtV l k) ∧ Sz wr (w.heap.size + 2) ∧ Below w.heap.size w wr) (fun i _ => 16 - (intOf i).toNat)
      case atStart => exact ⟨2, by omega, by omega, rfl, h1, h2.congr fun v _ => nxtV_zero l v, HS, hb⟩
      case round =>
        obtain ⟨k, hk2, hk, rfl, h1, h2, HS, hb⟩ := hrel
        by_cases hlt : k < 16
        · have c1 := h1.cell (i := k - 1) (by omega)
          rw [cntV_at l n (by omega)] at c1
          have c2 := h2.cell (i := k - 1) (by omega)
          rw [nxtV_at l (by omega)] at c2
          have c3 := h2.cell (i := k) (by omega)
          have z3 := h2.frozen' (i := k) (by omega)
          have b1 := cnt_le l n (k - 1)
          have b2 := nxt_bd l (by omega) (v := k - 1) (by omega)
          have b3 : ((k : Int) - 1).toNat = k - 1 := by omega
          go_wp2
          go_region
          go_wp2
          go_roundw
          case rel => exact ⟨k + 1, by omega, by omega, by go_num, h1.far (by simp) _, (h2.set_ (by omega) _).congr fun j _ => nxtV_hit l n hk2 (by omega) j, (HS.set_ _ _).drew, (hb.setCell (by simp) _).drew⟩
          case measure => simp [intOf]; omega
        · obtain rfl : 16 = k := by omega
          have hm := HM.out wr
          have hs : wr.heap.size = w.heap.size + 2 := HS
          go_wp2
          clear hs hm
          have o1 : Ar (wr.alloc (.cells (zrow n (.int .u32 0)) 54)) (w.heap.size + 2) n (outV l 0) := (Ar.zeros' n (.int .u32 0) 54 HS.symm).congr fun j _ => outV_zero l j
          have h2' := (h2.congr (fun j hj => runV_of l j hj)).alloc (.cells (zrow n (.int .u32 0)) 54)
          have hb' := hb.alloc (by rw [show wr.heap.size = w.heap.size + 2 from HS]; omega) (.cells (zrow n (.int .u32 0)) 54)
          have HS' := HS.alloc (.cells (zrow n (.int .u32 0)) 54)
          clear h1 h2 hb HS
          obtain ⟨wp, hwp⟩ : ∃ wp : World, wp = wr.alloc (.cells (zrow n (.int .u32 0)) 54) := ⟨_, rfl⟩
          rw [← hwp] at o1 h2' hb' HS' ⊢
          clear hwp
          go_loopw [53] (fun i wr => ∃ k : Nat, k ≤ n ∧ i = .int .i64 k ∧ Ar wr (w.heap.size + 1) 16 (runV l k) ∧ Ar wr (w.heap.size + 2) n (outV l k) ∧ Sz wr (w.heap.size + 3) ∧ Below w.heap.size w wr) (fun i _ => n - (intOf i).toNat)
          case atStart => exact ⟨0, Nat.zero_le _, rfl, h2', o1, HS', hb'⟩
          case round =>
            obtain ⟨k, hk, rfl, h2, o1, HS, hb⟩ := hrel
            by_cases hlt : k < n
            · obtain ⟨a1, rfl, _, hc⟩ := (hl.below hb).at_ hlt
              by_cases ht : 1 ≤ ix l k ∧ ix l k ≤ 15
              · obtain ⟨v, hv⟩ : ∃ v : Nat, ix l k = (v : Int) := ⟨(ix l k).toNat, by omega⟩
                rw [hv] at hc ht
                have hb1 : (1 : Int) ≤ (v : Int) ∧ (v : Int) ≤ 15 := ht
                have c1 := h2.cell (i := v) (by omega)
                rw [runV_at l k (by omega)] at c1
                have z1 := h2.frozen' (i := v) (by omega)
                have c2 := o1.cell hlt
                have z2 := o1.frozen' (i := k) (by omega)
                have bd := cnt_le l k v
                have bd2 := nxt_bd l (by omega) (v := v) (by omega)
                have H := Lib.hid hv
                clear hv
                go_wp2
                go_roundw
                case rel => exact ⟨k + 1, by omega, by go_num, ((h2.far (by simp) _).set_ (by omega) _).congr fun j _ => runV_hit l k (by omega) H.out j, ((o1.set_ hlt _).far (by simp) _).congr fun j _ => outV_hit l k (by omega) (by omega) H.out j, (HS.set_ _ _).set_ _ _, (hb.setCell (by simp) _).setCell (by simp) _⟩
                case measure => simp [intOf]; omega
              · go_wp2
                all_goals
                  go_roundw
                  case rel => exact ⟨k + 1, by omega, by go_num, h2.congr (runV_miss l k ht), o1.congr fun j _ => outV_miss l k ht j, HS, hb⟩
                  case measure => simp [intOf]; omega
            · obtain rfl : n = k := by omega
              go_wp2
              go_ret
              refine ⟨rfl, ⟨by rw [codesOf_length l (by omega)]; omega, ?_⟩, hb⟩
              refine (o1.rd (by rw [show wr.heap.size = _ from HS]; omega) (Nat.le_refl _)).congr fun i hi => ?_
              unfold outV
              rw [if_pos hi, ix_codesOf l (by omega) (by omega)]

theorem codes_any (A : Option Addr) (n c B : Nat) (l : List Int) (w : World) (hl : RdI .i64 w B A n l) (hB : B ≤ w.heap.size) (hn : n ≤ 288) :
    Calls Try.prog 67 #[.slice A n c] w fun e w' => ∃ g, e = .returned (.slice (some ⟨g, 0, none⟩) n n) ∧ RdI .u32 w' w'.heap.size (some ⟨g, 0, none⟩) n (codesOf l) ∧ Below w.heap.size w w' :=
  (codes_at A n c l w (hl.more hB) hn).mono fun _ _ ⟨he, hr, hb⟩ => ⟨_, he, hr, hb⟩
theorem codes_long (A : Option Addr) (n c : Nat) (w : World) (hn : 288 < n) :
    Calls Try.prog 67 #[.slice A n c] w fun e w' => e = .returned (.slice none 0 0) ∧ w = w' := by
  have hn1 : (288 < (n : Int)) := by omega
  go_enter Try.func67, Try.ntmps67
  go_wp2
  go_ret
  exact ⟨rfl, rfl⟩
end Go.Proofs.Ytckhkkjdibcclaa

/-
  Plain law: codes in making.
-/
namespace Go.Proofs.Ytckhkkjdibcclaa
open Go.RowKit
set_option linter.unusedVariables false

def preC (l : List Int) (v : Nat) : Nat := if v ≤ 1 then 0 else nxt l (v - 1) + cnt l l.length (v - 1)
theorem preC_one (l : List Int) : preC l 1 = 0 := by simp [preC]
theorem preC_nxt (l : List Int) {v : Nat} (h : 1 ≤ v) : nxt l v = 2 * preC l v := by
  unfold preC
  rcases v with _ | _ | v
  · omega
  · simp [nxt]
  · simp [nxt]
theorem preC_succ (l : List Int) {v : Nat} (h : 1 ≤ v) : preC l (v + 1) = nxt l v + cnt l l.length v := by
  unfold preC; rw [if_neg (by omega)]; simp
def doneV (l : List Int) (v k j : Nat) : Value := .int .u32 (if ix l j < v ∨ (ix l j = v ∧ j < k) then codeAt l j else 0 : Nat)
theorem codeAt_no {l : List Int} {j : Nat} (h : ¬ (1 ≤ ix l j ∧ ix l j ≤ 15)) : codeAt l j = 0 := by
  unfold codeAt isLen; rw [if_neg (by simpa using h)]
theorem codeAt_yes {l : List Int} {j v : Nat} (h1 : 1 ≤ v) (h2 : v ≤ 15) (e : ix l j = v) : codeAt l j = nxt l v + cnt l j v := by
  unfold codeAt isLen; rw [e, if_pos (by simp; omega)]; simp
theorem doneV_start (l : List Int) (j : Nat) : Value.int .u32 0 = doneV l 1 0 j := by
  unfold doneV
  congr 1
  split
  · rename_i h
    rw [codeAt_no (by omega)]; rfl
  · rfl
theorem doneV_next (l : List Int) (v j : Nat) (hj : j < l.length) : doneV l v l.length j = doneV l (v + 1) 0 j := by
  unfold doneV
  congr 2
  by_cases h : ix l j < (v : Int) + 1
  · rw [if_pos (by omega), if_pos (by omega)]
  · rw [if_neg (by omega), if_neg (by omega)]
theorem doneV_end (l : List Int) (j : Nat) : doneV l 16 0 j = .int .u32 (codeAt l j : Nat) := by
  unfold doneV
  congr 2
  split
  · rfl
  · rename_i h
    rw [codeAt_no (by omega)]
theorem doneV_hit {l : List Int} {v k : Nat} (h1 : 1 ≤ v) (h2 : v ≤ 15) (e : ix l k = v) (j : Nat) : upd (doneV l v k) k (.int .u32 ((nxt l v + cnt l k v : Nat) : Int)) j = doneV l v (k + 1) j := by
  by_cases hj : j = k
  · subst hj
    rw [upd_same]; unfold doneV; rw [if_pos (.inr ⟨e, by omega⟩), codeAt_yes h1 h2 e]
  · rw [upd_other _ _ hj]; unfold doneV; congr 2
    by_cases h : ix l j < (v : Int) ∨ (ix l j = v ∧ j < k)
    · rw [if_pos h, if_pos (by omega)]
    · rw [if_neg h, if_neg (by omega)]
theorem doneV_miss {l : List Int} {v k : Nat} (e : ¬ ix l k = v) (j : Nat) : doneV l v k j = doneV l v (k + 1) j := by
  unfold doneV; congr 2
  by_cases h : ix l j < (v : Int) ∨ (ix l j = v ∧ j < k)
  · rw [if_pos h, if_pos (by omega)]
  · by_cases hj : j = k
    · subst hj; rw [if_neg h, if_neg (by omega)]
    · rw [if_neg h, if_neg (by omega)]

end Go.Proofs.Ytckhkkjdibcclaa

/-
  The walks of LenBase, DistBase and of the reference's Lens, Dists. (written by gentok.py)
-/
namespace Go.Proofs.Ytckhkkjdibcclaa
open Go.RowKit
set_option linter.unusedVariables false

set_option maxHeartbeats 8000000 in
theorem lenBase_code (j : Nat) (hj : j < 29) (x : Int) (hx : x = 257 + (j : Int)) (w : World) : Calls Try.prog 59 #[.int .i64 x] w fun e w' => e = .returned (.tuple #[.int .i64 ((lB j : Nat) : Int), .int .i64 ((lE j : Nat) : Int), .bool true]) ∧ w = w' := by
  have h : j = 0 ∨ j = 1 ∨ j = 2 ∨ j = 3 ∨ j = 4 ∨ j = 5 ∨ j = 6 ∨ j = 7 ∨ j = 8 ∨ j = 9 ∨ j = 10 ∨ j = 11 ∨ j = 12 ∨ j = 13 ∨ j = 14 ∨ j = 15 ∨ j = 16 ∨ j = 17 ∨ j = 18 ∨ j = 19 ∨ j = 20 ∨ j = 21 ∨ j = 22 ∨ j = 23 ∨ j = 24 ∨ j = 25 ∨ j = 26 ∨ j = 27 ∨ j = 28 := by omega
  rcases h with rfl | rfl | rfl | rfl | rfl | rfl | rfl | rfl | rfl | rfl | rfl | rfl | rfl | rfl | rfl | rfl | rfl | rfl | rfl | rfl | rfl | rfl | rfl | rfl | rfl | rfl | rfl | rfl | rfl
  all_goals
    subst hx
    go_enter Try.func59, Try.ntmps59
    go_wp2
    go_ret3
    exact ⟨rfl, rfl⟩

set_option maxHeartbeats 8000000 in
theorem distBase_code (j : Nat) (hj : j < 30) (x : Int) (hx : x = 0 + (j : Int)) (w : World) : Calls Try.prog 60 #[.int .i64 x] w fun e w' => e = .returned (.tuple #[.int .i64 ((dB j : Nat) : Int), .int .i64 ((dE j : Nat) : Int), .bool true]) ∧ w = w' := by
  have h : j = 0 ∨ j = 1 ∨ j = 2 ∨ j = 3 ∨ j = 4 ∨ j = 5 ∨ j = 6 ∨ j = 7 ∨ j = 8 ∨ j = 9 ∨ j = 10 ∨ j = 11 ∨ j = 12 ∨ j = 13 ∨ j = 14 ∨ j = 15 ∨ j = 16 ∨ j = 17 ∨ j = 18 ∨ j = 19 ∨ j = 20 ∨ j = 21 ∨ j = 22 ∨ j = 23 ∨ j = 24 ∨ j = 25 ∨ j = 26 ∨ j = 27 ∨ j = 28 ∨ j = 29 := by omega
  rcases h with rfl | rfl | rfl | rfl | rfl | rfl | rfl | rfl | rfl | rfl | rfl | rfl | rfl | rfl | rfl | rfl | rfl | rfl | rfl | rfl | rfl | rfl | rfl | rfl | rfl | rfl | rfl | rfl | rfl | rfl
  all_goals
    subst hx
    go_enter Try.func60, Try.ntmps60
    go_wp2
    go_ret3
    exact ⟨rfl, rfl⟩

theorem lenBase_none (x : Int) (hx : x < 257 ∨ 285 < x) (hb : -9223372036854775808 ≤ x ∧ x ≤ 9223372036854775807) (w : World) : Calls Try.prog 59 #[.int .i64 x] w fun e w' => e = .returned (.tuple #[.int .i64 0, .int .i64 0, .bool false]) ∧ w = w' := by
  have h : x < 257 ∨ (¬ x < 257 ∧ 285 < x) := by omega
  clear hx
  rcases h with h | ⟨h0, h⟩
  all_goals
    go_enter Try.func59, Try.ntmps59
    go_wp2
    go_ret3
    exact ⟨rfl, rfl⟩
theorem distBase_none (x : Int) (hx : x < 0 ∨ 30 ≤ x) (w : World) : Calls Try.prog 60 #[.int .i64 x] w fun e w' => e = .returned (.tuple #[.int .i64 0, .int .i64 0, .bool false]) ∧ w = w' := by
  have h : x < 0 ∨ (¬ x < 0 ∧ 30 ≤ x) := by omega
  clear hx
  rcases h with h | ⟨h0, h⟩
  all_goals
    go_enter Try.func60, Try.ntmps60
    go_wp2
    go_ret3
    exact ⟨rfl, rfl⟩
end Go.Proofs.Ytckhkkjdibcclaa
