import Derived.Test.YtbcmiahggfgjjaaProg
import Derived.Test.YtbcmiahggfgjjaaAns7
namespace Go.Proofs.Ytbcmiahggfgjjaa
open Go.RowKit
set_option linter.unusedVariables false

theorem bdf_u8 {x : Int} (h : (Lit.int .u8 x).wf = true) : 0 ≤ x ∧ x ≤ 255 := by
  simp [Lit.wf, IntKind.min, IntKind.max, IntKind.signed, IntKind.bits] at h
  omega
theorem bdf_u16 {x : Int} (h : (Lit.int .u16 x).wf = true) : 0 ≤ x ∧ x ≤ 65535 := by
  simp [Lit.wf, IntKind.min, IntKind.max, IntKind.signed, IntKind.bits] at h
  omega
def rep (n : Nat) (v : Int) : List Int := List.replicate n v
theorem rep_length (n : Nat) (v : Int) : (rep n v).length = n := by simp [rep]
theorem rep_drop (n k : Nat) (v : Int) : (rep n v).drop k = rep (n - k) v := by simp [rep]
theorem ix_rep {n i : Nat} (v : Int) (h : i < n) : ix (rep n v) i = v := by simp [ix, rep, h]
def fillV (v : Int) (k i : Nat) : Value := .int .u8 (if i < k then v else 0)
theorem fillV_zero (v : Int) (i : Nat) : Value.int .u8 0 = fillV v 0 i := by unfold fillV; rw [if_neg (Nat.not_lt_zero _)]
theorem fillV_hit (v : Int) (k j : Nat) : upd (fillV v k) k (.int .u8 v) j = fillV v (k + 1) j := by
  by_cases hj : j = k
  · subst hj; rw [upd_same]; unfold fillV; rw [if_pos (by omega)]
  · rw [upd_other _ _ hj]; unfold fillV; congr 1
    by_cases h : j < k
    · rw [if_pos h, if_pos (by omega)]
    · rw [if_neg h, if_neg (by omega)]
theorem copy_ok' (w : World) (b0 g n c : Nat) (A : Option Addr) (l : List Int) (hw : Win w b0 g A n c l) (N D : Nat) (x y : Int) (hx : x = (N : Int)) (hy : y = (D : Int)) (hN : 1 ≤ (N : Int) ∧ (N : Int) ≤ 258) (hD : 1 ≤ (D : Int) ∧ (D : Int) ≤ ((min n 32768 : Nat) : Int)) :
    Calls Try.prog 14 #[.pointer (some ⟨g, 0, none⟩), .int .i64 x, .int .i64 y] w (CopyPost w b0 g A l D N) := by
  subst hx hy
  exact copy_ok w b0 g n c A l hw N D hN hD
theorem take_rep {w : World} {B h N m : Nat} {v : Int} (hr : RdI .u8 w B (some ⟨h, 0, none⟩) N (rep N v)) (hm : m ≤ N) : RdI .u8 w B (some ⟨h, 0, none⟩) m (rep m v) :=
  ⟨(rep_length _ _).symm, fun h0 => by
    obtain ⟨ad, e, hb, hc⟩ := hr.2 (by omega)
    exact ⟨ad, e, hb, fun i hi => by rw [hc i (by omega)]; show some (Value.int .u8 (ix (rep N v) i)) = some (Value.int .u8 (ix (rep m v) i)); rw [ix_rep _ (by omega), ix_rep _ hi]⟩⟩

set_option maxRecDepth 100000 in
set_option maxHeartbeats 4000000 in
theorem windowFar_walk (x y : Int) (w : World) (hx : (Lit.int .u16 x).wf = true) (hy : (Lit.int .u8 y).wf = true) :
    Calls Try.prog 4 #[.int .u16 x, .int .u8 y] w fun e w' => e = .returned (.bool true) ∧ Below w.heap.size w w' := by
  have bx := bdf_u16 hx
  have hy2 := bdf_u8 hy
  clear hx hy
  obtain ⟨X, rfl⟩ := Int.eq_ofNat_of_zero_le bx.1
  obtain ⟨M, hM⟩ : ∃ M : Nat, X % 4 = M := ⟨_, rfl⟩
  have hM4 : M < 4 := by rw [← hM]; exact Nat.mod_lt _ (by omega)
  have hMI : (0 : Int) ≤ M ∧ (M : Int) < 4 := by omega
  have hMe : (X : Int) % 4 = (M : Int) := by rw [← hM]; rfl
  obtain ⟨N, hN⟩ : ∃ N : Nat, (32765 : Int) + (M : Int) = (N : Int) := ⟨32765 + M, by omega⟩
  have hNI : 32765 ≤ (N : Int) ∧ (N : Int) ≤ 32768 := by omega
  have hN3 : N - 32765 = M := by omega
  obtain ⟨u1, hu1⟩ : ∃ u : Int, IntKind.u8.wrap (y + 1) = u := ⟨_, rfl⟩
  obtain ⟨u2, hu2⟩ : ∃ u : Int, IntKind.u8.wrap (y + 2) = u := ⟨_, rfl⟩
  obtain ⟨u9, hu9⟩ : ∃ u : Int, IntKind.u8.wrap (y + 9) = u := ⟨_, rfl⟩
  have HU1 := Lib.hid hu1
  have HU2 := Lib.hid hu2
  have HU9 := Lib.hid hu9
  obtain ⟨i0, hi, hz0, hz1, hz2⟩ := info_parts wbyte_info
  have hmk := fun W => run_make_zrow (P := Try.prog) 22 5 i0 (.int .u8 0) Try.underlying22 hi hz0 hz1 rfl .i64 .i64 N (by rw [hz2]; omega) (by omega) W
  clear hi hz0 hz1 hz2 hM
  have HM := Lib.hid hM4
  clear hM4
  have HM3 := Lib.hid hN3
  clear hN3
  go_enter Try.func4, Try.ntmps4
  go_wp2_with fail
  refine (winNew_any _).mono ?_
  rintro e w1 ⟨g, rfl, hw1, hb1⟩
  go_wp2_with fail
  refine (answers7_any _).mono ?_
  rintro e w2 ⟨rfl, hb2⟩
  have hb3 := hb1.trans (hb2.mono hb1.size)
  have hw2 := hw1.keeps hb2
  go_wp2_with fail
  refine (winAdd_any _ _ _ _ _ _ _ _ _ _ _ [y, u1, u2] (hw2.keeps ((Below.refl _ _).alloc (Nat.le_refl _) _)) (RdI.litf .u8 rfl [y, u1, u2] 5 _) (by simp) (by simp)).mono ?_
  rintro e w3 ⟨A3, n3, c3, rfl, hw3, hg3, hf3⟩
  rw [addL_small (by simp), List.nil_append] at hw3
  obtain rfl : n3 = 3 := hw3.n_eq
  have hb4 : Below w.heap.size w w3 := (hb3.alloc hb3.size _).trans (hg3.below (fun k hk => (hw2.foot_lo hk).1) (by have := hb3.size; simp; omega))
  go_wp2_with fail
  have hbm : Below w.heap.size w (w3.alloc (.cells (zrow N (.int .u8 0)) 5)) := hb4.alloc hb4.size _
  have o1 : Own (w3.alloc (.cells (zrow N (.int .u8 0)) 5)) w.heap.size 5 1 (some ⟨w3.heap.size, 0, none⟩) N N (fillV u9 0) :=
    (Own.lit rfl _ _ hb4.size (by unfold maxLen; omega) (by rw [zrow_size, Nat.mul_one]) (fun i hi => by rw [zrow_at _ (by omega)]; exact congrArg some (fillV_zero u9 i)))
  have hw4 := hw3.keeps ((Below.refl _ w3).alloc (Nat.le_refl _) (.cells (zrow N (.int .u8 0)) 5))
  obtain ⟨h, hh⟩ : ∃ h : Nat, w3.heap.size = h := ⟨_, rfl⟩
  obtain ⟨w4, hw4e⟩ : ∃ w4 : World, w4 = w3.alloc (.cells (zrow N (.int .u8 0)) 5) := ⟨_, rfl⟩
  have hfh : ∀ k, foot A3 g k → k ≠ h := fun k hk he => by have := (hw3.foot_lo hk).2; omega
  have hHb : w.heap.size ≤ h := by have := hb4.size; omega
  rw [hh] at o1 ⊢
  rw [← hw4e] at o1 hbm hw4 ⊢
  clear hh hw4e
  go_loopw [8] (fun i wr => ∃ k : Nat, k ≤ N ∧ i = .int .i64 k ∧ Own wr w.heap.size 5 1 (some ⟨h, 0, none⟩) N N (fillV u9 k) ∧ Below w.heap.size w wr ∧ Win wr w.heap.size g A3 3 c3 [y, u1, u2]) (fun i _ => N - (intOf i).toNat)
  case atStart => exact ⟨0, by omega, rfl, o1, hbm, hw4⟩
  case round =>
    obtain ⟨k, hk, rfl, o1, hbr, hwr⟩ := hrel
    by_cases hlt : k < N
    · have hk0 : (0 : Int) ≤ k ∧ (k : Int) < N := by omega
      have c2 := o1.cell (i := k) (by omega)
      have z2 := o1.frozen k
      go_wp2
      go_roundw
      case rel => exact ⟨k + 1, by omega, by go_num, (o1.set_ (by omega) _).congr fun j _ => fillV_hit u9 k j, hbr.setCell hHb _, hwr.chg ((Chg.refl wr (fun q => q = h)).setCell (p := ⟨h, k, none⟩) (.inl rfl) _) (fun q hq => hfh q hq)⟩
      case measure => simp [intOf]; omega
    · obtain rfl : N = k := by omega
      have ho : OwnI .u8 wr w.heap.size 5 (some ⟨h, 0, none⟩) N N (rep N u9) := ⟨(rep_length N u9).symm, o1.congr fun i hi => by unfold fillV; rw [if_pos (by omega), ix_rep _ (by omega)]⟩
      go_wp2_with fail
      refine (winAdd_any _ _ _ _ _ _ _ _ _ _ _ _ hwr (take_rep (m := 1000) ho.rd (by omega)) (Nat.le_refl _) (by omega)).mono ?_
      rintro e w5 ⟨A5, n5, c5, rfl, hw5, hg5, hf5⟩
      rw [addL_small (by rw [rep_length]; simp)] at hw5
      obtain rfl : n5 = 1003 := by rw [hw5.n_eq]; simp [rep_length]
      have hb5 := hbr.trans (hg5.below (fun k hk => (hwr.foot_lo hk).1) hbr.size)
      have ho5 := hg5.ownI ho (fun k hk hf => hfh k hf (by simp [blkOf] at hk; omega))
      have hrd5 := ho5.rd.cut (j := 1000) (by omega) (A' := some ⟨h, 1000, none⟩) (fun _ => by rw [Option.map_some, addr0])
      rw [rep_drop] at hrd5
      obtain ⟨R, hR⟩ : ∃ R : Nat, N - 1000 = R := ⟨_, rfl⟩
      have hRI : (R : Int) = (N : Int) - 1000 := by omega
      have HR := Lib.hid hRI
      clear hRI
      have HRN := Lib.hid hR
      go_wp2_with fail
      refine (winAdd_any _ _ _ _ _ _ _ _ _ _ _ _ hw5 (by first | exact hrd5 | (rw [hR]; exact hrd5) | (rw [← hR]; exact hrd5)) (Nat.le_refl _) (by omega)).mono ?_
      rintro e w6 ⟨A6, n6, c6, rfl, hw6, hg6, hf6⟩
      rw [addL_small (by rw [List.length_append, rep_length, rep_length]; simp; omega)] at hw6
      have hb6 := hb5.trans (hg6.below (fun k hk => (hw5.foot_lo hk).1) hb5.size)
      obtain ⟨l6, hl6⟩ : ∃ l6, l6 = [y, u1, u2] ++ rep 1000 u9 ++ rep (N - 1000) u9 := ⟨_, rfl⟩
      have hlen6 : l6.length = N + 3 := by rw [hl6, List.length_append, List.length_append, rep_length, rep_length]; simp; omega
      have hix6 : ix l6 M = if M = 0 then y else if M = 1 then u1 else if M = 2 then u2 else u9 := by
        have := HM.out
        rw [hl6, ix_append, ix_append]
        obtain rfl | rfl | rfl | rfl : M = 0 ∨ M = 1 ∨ M = 2 ∨ M = 3 := by omega
        · simp; rfl
        · simp; rfl
        · simp; rfl
        · rw [if_pos (by simp [rep_length]), if_neg (by simp), ix_rep _ (by simp)]; simp
      rw [← hl6] at hw6
      have hn6 := hw6.n_eq
      rw [hlen6] at hn6
      clear hR hl6
      go_wp2_with fail
      refine (copy_ok' _ _ _ _ _ _ _ hw6 1 32768 1 32768 rfl rfl (by omega) (by omega)).mono ?_
      rintro e w7 ⟨g7, A7, n7, c7, rfl, ho7, hw7, hap7, hg7, hf7⟩
      have hb7 := hb6.trans (hg7.below (fun k hk => (hw6.foot_lo hk).1) hb6.size)
      have hcell := ho7.ar.cell (i := 0) (by omega)
      rw [ix_cpL _ _ _ (by omega), Nat.zero_mod, Nat.add_zero, hlen6, show N + 3 - 32768 = M by have := HM3.out; omega, hix6] at hcell
      have hn7 : n7 = N + 4 := by rw [hw7.n_eq, addL_small (by rw [cpL_length, hlen6]; omega), List.length_append, cpL_length, hlen6]
      have hmin : ((min n7 32768 : Nat) : Int) = 32768 := by omega
      have HMIN := Lib.hid hmin
      clear hn6 hlen6 hn7
      go_wp2_with fail
      refine (copy_code _ _ _ _ _ _ _ hw7 1 32769 (by omega) (by omega)).mono ?_
      rintro e w8 ⟨rfl, rfl⟩
      clear hmin hix6
      obtain ⟨W, hWd⟩ : ∃ W : Int, (if M = 0 then y else if M = 1 then u1 else if M = 2 then u2 else u9) = W := ⟨_, rfl⟩
      rw [hWd] at hcell
      by_cases hM3 : M = 3
      · have hM3I : (M : Int) = 3 := by omega
        rw [if_neg (by omega), if_neg (by omega), if_neg (by omega)] at hWd
        subst hWd
        subst hM3
        go_wp2_with fail
        refine (winLen_any _ _ _ _ _ _ _ hw7).mono ?_
        rintro e w8 ⟨rfl, rfl⟩
        rw [HMIN.out]
        go_wp2
        go_ret
        exact ⟨rfl, hb7⟩
      · have hM3I : ¬ (M : Int) = 3 := by omega
        have hM3b : ((M : Int) == 3) = false := by simpa using hM3I
        have hM3J : (M : Int) < 3 := by have := HM.out; omega
        have hWW : IntKind.u8.wrap (y + (M : Int)) = W := by
          have := HM.out
          rw [← hWd]
          obtain rfl | rfl | rfl : M = 0 ∨ M = 1 ∨ M = 2 := by omega
          · rw [if_pos rfl]; unfold IntKind.wrap; simp [IntKind.signed, IntKind.bits]; omega
          · rw [if_neg (by omega), if_pos rfl]; exact hu1
          · rw [if_neg (by omega), if_neg (by omega), if_pos rfl]; exact hu2
        clear hWd hM3
        go_wp2_with fail
        refine (winLen_any _ _ _ _ _ _ _ hw7).mono ?_
        rintro e w8 ⟨rfl, rfl⟩
        rw [HMIN.out]
        go_wp2
        go_ret
        exact ⟨rfl, hb7⟩
end Go.Proofs.Ytbcmiahggfgjjaa
