/-
  The walk of the law LimitLengths.
-/
import Derived.Test.YtbllgifmidnkhaaProg
import Derived.Test.YtbllgifmidnkhaaAns5
import Derived.Test.YtbllgifmidnkhaaLimV
import Derived.Test.YtbllgifmidnkhaaLeaW
import Derived.Test.YtbllgifmidnkhaaCost
import Derived.Test.YtbllgifmidnkhaaOpenC
namespace Go.Proofs.Ytbllgifmidnkhaa
open Go.RowKit
set_option linter.unusedVariables false
set_option maxRecDepth 100000 in
set_option maxHeartbeats 4000000 in
theorem llen_law (A : Option Addr) (n c : Nat) (f : List Int) (most : Int) (w : World) (T : InC .i64 w A n c f) (hmost : (Lit.int .i64 most).wf = true) :
    Calls Try.prog 3 #[.slice A n c, .int .i64 most] w fun e w' => e = .returned (.bool true) ∧ Below w.heap.size w w' := by
  obtain ⟨R, m0, f0, lc0, cm0⟩ := T
  obtain ⟨i0, hi, hz0, hz1, hz2⟩ := info_parts lint_info
  have Hi := Lib.hid hi
  have Hz0 := Lib.hid hz0
  have Hz1 := Lib.hid hz1
  have Hz2 := Lib.hid hz2
  have hnm : (n : Int) ≤ 9223372036854775807 ∧ (0 : Int) ≤ n := by unfold maxLen at m0; omega
  have HNF := Lib.hid R.1
  clear m0 f0 hi hz0 hz1 hz2 hmost
  by_cases h300 : 300 < n
  · have h300I : (300 : Int) < n := by omega
    go_enter Try.func3, Try.ntmps3
    go_wp2_with fail
    refine (answers5_any _).mono ?_
    rintro e w4 ⟨rfl, hb4⟩
    go_wp2_with fail
    go_ret
    exact ⟨rfl, hb4⟩
  · have h300I : ¬ (300 : Int) < n := by omega
    have hn300 : n ≤ 300 := by omega
    have hb0 : Below w.heap.size w (w.alloc (.cells #[] 3)) := (Below.refl _ w).alloc (Nat.le_refl _) _
    have RA := R.alloc (Nat.le_refl _) (.cells #[] 3)
    have hoL := OwnI.lit (k := .i64) (w := w) (b0 := w.heap.size) rfl [] 3 (Nat.le_refl _) (by simp)
    go_enter Try.func3, Try.ntmps3
    go_wp2_with (at_builtin; (refine wpList_app .i64 w.heap.size 3 i0 8 rfl (.tmp 15) (.tmp 16) _ rfl Try.underlying22 Hi.out Hz0.out Hz1.out Hz2.out rfl hoL rfl RA (by simp; omega) (by omega) (by simp) ?_)
                 intro A5 c5 w5 ho5 hg5 hat5)
    rw [List.nil_append] at ho5
    have hb5 : Below w.heap.size w w5 := hb0.grown hg5 (by simp) (by simp [blkOf])
    have R5 := R.below hb5
    have hb5h := Lib.hid hb5
    have Rx := ho5.rd
    simp only [Nat.zero_add] at Rx ⊢
    clear hb0 RA hoL ho5 hg5 hat5
    refine (lengths_any _ _ _ _ f Rx most (by omega)).mono ?_
    rintro e w6 ⟨AL, cL, L, rfl, hb6, ho6, hno, hR⟩
    have R6 := R5.below (hb6.mono hb5.size)
    have hb6h := Lib.hid (hb5.trans (hb6.mono hb5.size))
    have RL := ho6.rd
    obtain ⟨mv, hmv⟩ : ∃ v, mayV f most = v := ⟨_, rfl⟩
    rw [hmv] at hno hR ⊢
    have HMV := Lib.hid hmv
    have HNO := Lib.hid hno
    have HR := Lib.hid hR
    clear hmv hno hR Rx ho6 hb5 R5 hb6
    go_wp2_with fail
    refine (rmay_any _ _ _ _ _ f R6 most (by omega)).mono ?_
    rintro e w7 ⟨rfl, rfl⟩
    rw [HMV.out]
    go_wp2_with fail
    refine (answers5_any _).mono ?_
    rintro e w8 ⟨rfl, hb8⟩
    have RL8 := (RL.below hb8).more hb8.size
    have R8 := (R6.below (hb8.mono hb6h.out.size)).more (Nat.le_trans hb6h.out.size hb8.size)
    have hb8h := Lib.hid (hb6h.out.trans (hb8.mono hb6h.out.size))
    clear RL R6 hb8
    by_cases hv0 : mv = 0
    · subst hv0
      obtain ⟨o1, o2, o3, o4, o5⟩ := may_ok HMV.out
      obtain ⟨m, rfl⟩ := Int.eq_ofNat_of_zero_le (show 0 ≤ most by omega)
      have hRR : LenRes f m L := by simpa using HR.out rfl
      have hS := hRR.snd HMV.out
      rw [← HNF.out] at hS
      have hLn : L.length = n := hS.len
      rw [hLn] at RL8 ⊢
      have HS := Lib.hid hS
      have HRR := Lib.hid hRR
      have HO := Lib.hid (⟨o1, o2, o3, o4⟩ : _ ∧ _ ∧ _ ∧ _)
      have hmI : (1 : Int) ≤ (m : Int) ∧ (m : Int) ≤ 15 := ⟨o2, o3⟩
      clear o1 o2 o3 o4 o5 hRR hS hLn HNO HR
      go_wp2_with fail
      refine (sound_any _ _ _ _ _ _ _ _ _ _ RL8 R8 hn300 HS.out).mono ?_
      rintro e w9 ⟨rfl, q9, hw9⟩
      have RL9 := RL8.drewN q9
      have R9 := R8.drewN q9
      have hb9h : Hid (Below w.heap.size w w9) := by rw [hw9]; exact below_drewN hb8h.out q9
      have hsz : Hid (w9.heap.size = w8.heap.size) := by rw [hw9]; rfl
      rw [← hw9] at RL9 R9
      clear hw9 RL8 R8
      go_wp2_with fail
      go_loopg [8, 9] n (fun (gk : Nat) (v8 v9 : Value) wx => ∃ i k : Nat, v8 = .int .i64 k ∧ v9 = .int .i64 i ∧ i ≤ n ∧ k ≤ i ∧ Hid (k = (posI f i).length) ∧ wx = w9 ∧ Hid (gk = n - i))
      case atStart => exact ⟨0, 0, rfl, rfl, Nat.zero_le _, Nat.le_refl _, rfl, rfl, rfl⟩
      case round =>
        obtain ⟨i, k, rfl, rfl, hin, hki, hk, hw, hg⟩ := hrel
        obtain rfl := hw.symm
        by_cases hlt : i < n
        · have hltI : (i : Int) < (n : Int) ∧ (0 : Int) ≤ i ∧ i < n := by omega
          obtain ⟨x, hx⟩ : ∃ x, ix f i = x := ⟨_, rfl⟩
          obtain ⟨ad, e1, hd1, hcx⟩ := R9.at_ hlt
          rw [hx] at hcx
          have HX := Lib.hid hx
          subst e1
          clear hx
          by_cases hp : 0 < x
          · have hps : posI f (i + 1) = posI f i ++ [(i : Int)] := by rw [posI, if_pos (by rw [HX.out]; exact hp)]
            have HPS := Lib.hid hps
            clear hps
            go_wp2_with fail
            go_roundg (n - (i + 1))
            case measure => have := hg.out; omega
            case rel => exact ⟨i + 1, k + 1, by go_num, by go_num, hltI.2.2, by omega, by show _ = _; rw [HPS.out, List.length_append, ← hk.out]; rfl, rfl, rfl⟩
          · have hps : posI f (i + 1) = posI f i := by rw [posI, if_neg (by rw [HX.out]; exact hp), List.append_nil]
            have HPS := Lib.hid hps
            clear hps
            go_wp2_with fail
            go_roundg (n - (i + 1))
            case measure => have := hg.out; omega
            case rel => exact ⟨i + 1, k, rfl, by go_num, hltI.2.2, by omega, by show _ = _; rw [HPS.out]; exact hk.out, rfl, rfl⟩
        · obtain rfl : i = n := by omega
          have hltI : ¬ (i : Int) < (i : Int) := by omega
          have hkI : (0 : Int) ≤ k ∧ (k : Int) ≤ 300 := by omega
          clear hlt
          by_cases hk2 : k < 2
          · have hk2I : (k : Int) < 2 := by omega
            go_wp2_with fail
            go_ret
            exact ⟨rfl, hb9h.out⟩
          · have hk2I : ¬ (k : Int) < 2 := by omega
            have hk2d : decide (k < 2) = false := decide_eq_false hk2
            by_cases hk60 : 60 < k
            · have hk60I : (60 : Int) < (k : Int) := by omega
              go_wp2_with fail
              go_ret
              exact ⟨rfl, hb9h.out⟩
            · have hk60I : ¬ (60 : Int) < (k : Int) := by omega
              have hk60d : decide (60 < k) = false := decide_eq_false hk60
              have hcnt : Hid (2 ≤ (posI f i).length ∧ (posI f i).length ≤ 60) := by show _ ∧ _; rw [← hk.out]; omega
              have R9' : RdI .i64 w9 w9.heap.size A i f := R9.more (by rw [hsz.out]; exact Nat.le_refl _)
              go_wp2_with fail
              refine (rcost_any _ _ _ _ _ _ _ _ _ _ RL9 R9 (by omega) (by omega)).mono ?_
              rintro e w10 ⟨rfl, q10, hw10⟩
              rw [Nat.min_self]
              have R10 := R9'.drewN q10
              have hb10 : Hid (Below w.heap.size w w10) := by rw [hw10]; exact below_drewN hb9h.out q10
              have hsz10 : Hid (w9.heap.size = w10.heap.size) := by rw [hw10]; rfl
              rw [← hw10, hsz10.out] at R10
              obtain ⟨K, hK⟩ : ∃ K, costTo L f i = K := ⟨_, rfl⟩
              rw [hK]
              have HK := Lib.hid hK
              clear hw10 hK
              go_wp2_with fail
              refine (least_any _ _ _ _ f R10 m (by omega) (by rw [HNF.out]; exact HO.out.1) (fun j hj => HO.out.2.2.2 j (by rw [← HNF.out]; exact hj)) hcnt.out).mono ?_
              rintro e w11 ⟨V, l, rfl, hb11, hl1, hl2, hl3, hl4⟩
              have hVK : V = K := by
                rw [← HK.out]
                have h := least_same HRR.out HMV.out (by rw [← HNF.out]; exact hcnt.out.1) (by rw [← HNF.out]; exact hl1) hl2 hl3 hl4
                rw [← HNF.out] at h
                exact h
              subst hVK
              have hb11h := Lib.hid (hb10.out.trans (hb11.mono hb10.out.size))
              clear hl1 hl2 hl3 hl4 hb11
              go_wp2_with fail
              go_ret
              exact ⟨by simp, hb11h.out⟩
    · have hv0' : (mv == 0) = false := by simpa using hv0
      have hL := HNO.out hv0
      subst hL
      go_wp2_with fail
      go_ret
      exact ⟨rfl, hb8h.out⟩
end Go.Proofs.Ytbllgifmidnkhaa
