/-
  The walk of the reference's Codes.
-/
import Derived.Test.YtoegpffdbfkcpaaProg
import Derived.Test.YtoegpffdbfkcpaaPk
import Derived.Test.YtoegpffdbfkcpaaCodes
namespace Go.Proofs.Ytoegpffdbfkcpaa
open Go.RowKit
set_option linter.unusedVariables false

def preC (l : List Int) (v : Nat) : Nat := if v ≤ 1 then 0 else nxt l (v - 1) + cnt l l.length (v - 1)
theorem preC_one (l : List Int) : preC l 1 = 0 := by simp [preC]
theorem preC_nxt (l : List Int) {v : Nat} (h : 1 ≤ v) : nxt l v = 2 * preC l v := by
  unfold preC
  rcases v with _ | _ | v
  · omega
  · simp [nxt]
  · simp [nxt]
theorem preC_succ (l : List Int) {v : Nat} (h : 1 ≤ v) : preC l (v + 1) = nxt l v + cnt l l.length v := by
  unfold preC; rw [if_neg (by omega)]; simp
def doneV (l : List Int) (v k j : Nat) : Value := .int .u32 (if ix l j < v ∨ (ix l j = v ∧ j < k) then codeAt l j else 0 : Nat)
theorem codeAt_no {l : List Int} {j : Nat} (h : ¬ (1 ≤ ix l j ∧ ix l j ≤ 15)) : codeAt l j = 0 := by
  unfold codeAt isLen; rw [if_neg (by simpa using h)]
theorem codeAt_yes {l : List Int} {j v : Nat} (h1 : 1 ≤ v) (h2 : v ≤ 15) (e : ix l j = v) : codeAt l j = nxt l v + cnt l j v := by
  unfold codeAt isLen; rw [e, if_pos (by simp; omega)]; simp
theorem doneV_start (l : List Int) (j : Nat) : Value.int .u32 0 = doneV l 1 0 j := by
  unfold doneV
  congr 1
  split
  · rename_i h
    rw [codeAt_no (by omega)]; rfl
  · rfl
theorem doneV_next (l : List Int) (v j : Nat) (hj : j < l.length) : doneV l v l.length j = doneV l (v + 1) 0 j := by
  unfold doneV
  congr 2
  by_cases h : ix l j < (v : Int) + 1
  · rw [if_pos (by omega), if_pos (by omega)]
  · rw [if_neg (by omega), if_neg (by omega)]
theorem doneV_end (l : List Int) (j : Nat) : doneV l 16 0 j = .int .u32 (codeAt l j : Nat) := by
  unfold doneV
  congr 2
  split
  · rfl
  · rename_i h
    rw [codeAt_no (by omega)]
theorem doneV_hit {l : List Int} {v k : Nat} (h1 : 1 ≤ v) (h2 : v ≤ 15) (e : ix l k = v) (j : Nat) : upd (doneV l v k) k (.int .u32 ((nxt l v + cnt l k v : Nat) : Int)) j = doneV l v (k + 1) j := by
  by_cases hj : j = k
  · subst hj
    rw [upd_same]; unfold doneV; rw [if_pos (.inr ⟨e, by omega⟩), codeAt_yes h1 h2 e]
  · rw [upd_other _ _ hj]; unfold doneV; congr 2
    by_cases h : ix l j < (v : Int) ∨ (ix l j = v ∧ j < k)
    · rw [if_pos h, if_pos (by omega)]
    · rw [if_neg h, if_neg (by omega)]
theorem doneV_miss {l : List Int} {v k : Nat} (e : ¬ ix l k = v) (j : Nat) : doneV l v k j = doneV l v (k + 1) j := by
  unfold doneV; congr 2
  by_cases h : ix l j < (v : Int) ∨ (ix l j = v ∧ j < k)
  · rw [if_pos h, if_pos (by omega)]
  · by_cases hj : j = k
    · subst hj; rw [if_neg h, if_neg (by omega)]
    · rw [if_neg h, if_neg (by omega)]

set_option maxHeartbeats 1000000 in
theorem rcodes_new (A : Option Addr) (n c B : Nat) (l : List Int) (w : World) (hl : RdI .i64 w B A n l) (hB : B ≤ w.heap.size) (hn : n ≤ 288) :
    Calls Try.prog 35 #[.slice A n c] w fun e w' => ∃ g, e = .returned (.slice (some ⟨g, 0, none⟩) n n) ∧ RdI .u32 w' w'.heap.size (some ⟨g, 0, none⟩) n (codesOf l) ∧ Below w.heap.size w w' ∧ w.heap.size ≤ g := by
  obtain ⟨i0, hi, hz0, hz1, hz2⟩ := info_parts codes_info
  have hln1 : n ≤ l.length ∧ l.length ≤ n := by have := hl.1; omega
  have hlnH := Lib.hid hl.1
  have hmk := fun W => run_make_zrow (P := Try.prog) 29 44 i0 (.int .u32 0) Try.underlying29 hi hz0 hz1 rfl .i64 .i64 n (by rw [hz2]; omega) (by omega) W
  have HM := Lib.hid hmk
  clear hmk hi hz0 hz1 hz2
  have hn1 : ¬ (288 < (n : Int)) := by omega
  have hm := HM.out w
  go_enter Try.func35, Try.ntmps35
  go_wp2
  clear hm
  have o1 : Ar (w.alloc (.cells (zrow n (.int .u32 0)) 44)) w.heap.size n (doneV l 1 0) := (Ar.zeros' n (.int .u32 0) 44 rfl).congr fun j _ => doneV_start l j
  have hb : Below w.heap.size w (w.alloc (.cells (zrow n (.int .u32 0)) 44)) := (Below.refl _ _).alloc (Nat.le_refl _) _
  obtain ⟨wp, hwp⟩ : ∃ wp : World, wp = w.alloc (.cells (zrow n (.int .u32 0)) 44) := ⟨_, rfl⟩
  rw [← hwp] at o1 hb ⊢
  clear hwp
  go_loopw [4, 5] (fun s i wr => ∃ v : Nat, 1 ≤ v ∧ v ≤ 16 ∧ i = .int .i64 v ∧ s = .int .u32 (preC l v) ∧ Ar wr w.heap.size n (doneV l v 0) ∧ Below w.heap.size w wr) (fun _ i _ => 16 - (intOf i).toNat)
  case atStart => exact ⟨1, by omega, by omega, rfl, by rw [preC_one]; rfl, o1, hb⟩
  case round =>
    obtain ⟨v, hv1, hv, rfl, rfl, o1, hb⟩ := hrel
    by_cases hlt : v < 16
    · have hx := Lib.hid (preC_nxt l hv1)
      have bd := nxt_bd l (by omega) (v := v) (by omega)
      have bp : preC l v ≤ 9437184 := by have := preC_nxt l hv1; omega
      go_wp2
      obtain ⟨wo, rfl⟩ : ∃ wo : World, wo = wr := ⟨_, rfl⟩
      go_loopw [4, 6] (fun s i wr => ∃ k : Nat, k ≤ n ∧ i = .int .i64 k ∧ s = .int .u32 ((nxt l v + cnt l k v : Nat) : Int) ∧ Ar wr w.heap.size n (doneV l v k) ∧ Below w.heap.size w wr) (fun _ i _ => n - (intOf i).toNat)
      case atStart => exact ⟨0, by omega, rfl, by rw [hx.out]; congr 1; simp [cnt]; omega, o1, hb⟩
      case round =>
        obtain ⟨k, hk, rfl, rfl, o1, hb⟩ := hrel
        by_cases hkn : k < n
        · obtain ⟨a1, rfl, _, hc⟩ := ((hl.more hB).below hb).at_ hkn
          have c2 := o1.cell hkn
          have z2 := o1.frozen' (i := k) (by omega)
          have b2 := cnt_le l k v
          by_cases he : ix l k = v
          · have hs := Lib.hid (show cnt l (k + 1) v = cnt l k v + 1 by simp [cnt, he])
            have HE := Lib.hid he
            rw [he] at hc
            clear he
            go_wp2
            go_roundw
            case rel => exact ⟨k + 1, by omega, by go_num, by rw [hs.out]; congr 1, (o1.set_ hkn _).congr fun j _ => doneV_hit hv1 (by omega) HE.out j, hb.setCell (Nat.le_refl _) _⟩
            case measure => simp [intOf]; omega
          · have hs := Lib.hid (show cnt l (k + 1) v = cnt l k v by simp [cnt, he])
            have he' : (ix l k == (v : Int)) = false := by simpa using he
            go_wp2
            go_roundw
            case rel => exact ⟨k + 1, by omega, by go_num, by rw [hs.out], o1.congr fun j _ => doneV_miss he j, hb⟩
            case measure => simp [intOf]; omega
        · obtain rfl : n = k := by omega
          go_wp2
          go_roundw
          case rel => exact ⟨v + 1, by omega, by omega, by go_num, by rw [preC_succ l hv1, ← hlnH.out], o1.congr fun j hj => by rw [← doneV_next l v j (by omega), ← hlnH.out], hb⟩
          case measure => simp [intOf]; omega
    · obtain rfl : 16 = v := by omega
      go_wp2
      go_ret
      refine ⟨_, rfl, ⟨by rw [codesOf_length l (by omega)]; omega, ?_⟩, hb, Nat.le_refl _⟩
      refine (o1.rd o1.lt (Nat.le_refl _)).congr fun i hi => ?_
      rw [doneV_end, ix_codesOf l (by omega) (by omega)]
theorem rcodes_any (A : Option Addr) (n c B : Nat) (l : List Int) (w : World) (hl : RdI .i64 w B A n l) (hB : B ≤ w.heap.size) (hn : n ≤ 288) :
    Calls Try.prog 35 #[.slice A n c] w fun e w' => ∃ g, e = .returned (.slice (some ⟨g, 0, none⟩) n n) ∧ RdI .u32 w' w'.heap.size (some ⟨g, 0, none⟩) n (codesOf l) ∧ Below w.heap.size w w' :=
  (rcodes_new A n c B l w hl hB hn).mono fun _ _ ⟨g, h1, h2, h3, _⟩ => ⟨g, h1, h2, h3⟩

theorem rcodes_long (A : Option Addr) (n c : Nat) (w : World) (hn : 288 < n) :
    Calls Try.prog 35 #[.slice A n c] w fun e w' => e = .returned (.slice none 0 0) ∧ w = w' := by
  have hn1 : (288 < (n : Int)) := by omega
  go_enter Try.func35, Try.ntmps35
  go_wp2
  go_ret
  exact ⟨rfl, rfl⟩
end Go.Proofs.Ytoegpffdbfkcpaa
