/-
  The walk of the law LimitBest.
-/
import Derived.Test.YtbllgifmidnkhaaProg
import Derived.Test.YtbllgifmidnkhaaAns5
import Derived.Test.YtbllgifmidnkhaaLimS
import Derived.Test.YtbllgifmidnkhaaRCk
import Derived.Test.YtbllgifmidnkhaaCost
import Derived.Test.YtbllgifmidnkhaaOpenC
namespace Go.Proofs.Ytbllgifmidnkhaa
open Go.RowKit
set_option linter.unusedVariables false

set_option maxRecDepth 100000 in
set_option maxHeartbeats 4000000 in
theorem lbest_law (A : Option Addr) (n c : Nat) (f : List Int) (A' : Option Addr) (n' c' : Nat) (o : List Int) (most : Int) (w : World) (T : InC .i64 w A n c f) (T' : InC .i64 w A' n' c' o) (hmost : (Lit.int .u8 most).wf = true) :
    Calls Try.prog 5 #[.slice A n c, .slice A' n' c', .int .u8 most] w fun e w' => e = .returned (.bool true) ∧ Below w.heap.size w w' := by
  obtain ⟨R, m0, f0, lc0, cm0⟩ := T
  obtain ⟨R', m0', f0', lc', cm0'⟩ := T'
  have hn : (n : Int) ≤ 9223372036854775807 ∧ (0 : Int) ≤ n := by unfold maxLen at m0; omega
  have hn' : (n' : Int) ≤ 9223372036854775807 ∧ (0 : Int) ≤ n' := by unfold maxLen at m0'; omega
  have hmb := bounds_u8 hmost
  obtain ⟨m, hm⟩ : ∃ m : Nat, most % 15 + 1 = (m : Int) := ⟨(most % 15 + 1).toNat, by omega⟩
  have hm1 : (1 : Int) ≤ m ∧ (m : Int) ≤ 15 := by omega
  have HNF := Lib.hid R.1
  have HNO := Lib.hid R'.1
  have HM := Lib.hid hm
  clear m0 f0 cm0 m0' f0' cm0' hmost lc0 lc' hm
  go_enter Try.func5, Try.ntmps5
  go_upto_region 1 with fail
  go_cut [7] (fun s7 wx => s7 = .int .i64 (m : Nat) ∧ wx = w)
  case first =>
    as_aux_lemma =>
      go_wp2_with fail
      all_goals go_meet
      all_goals exact ⟨by rw [HM.out], rfl⟩
  case rest =>
    obtain ⟨rfl, hw⟩ := hcut
    obtain rfl := hw.symm
    go_upto_region 2 with fail
    go_cut [38] (fun v wx => v = .bool (decide (288 < n ∨ mayV f m ≠ 0 ∨ n' ≠ n ∨ checkOf o m ≠ 0)) ∧ wx = w)
    case first =>
      as_aux_lemma =>
        by_cases h1 : 288 < n
        · have hdummy := True.intro
          have h1I : (288 : Int) < n := by omega
          go_wp2_with fail
          all_goals go_meet
          all_goals exact ⟨by rw [decide_eq_true (Or.inl h1)], rfl⟩
        · have h1I : ¬ (288 : Int) < n := by omega
          by_cases h2 : mayV f m = 0
          · by_cases h3 : n' = n
            · subst h3
              go_wp2_with fail
              refine (rmay_any _ _ _ _ _ _ R m (by omega)).mono ?_
              rintro e w1 ⟨rfl, rfl⟩
              rw [h2]
              go_wp2_with fail
              refine (rcheck_any _ _ _ _ _ _ _ R' (by omega)).mono ?_
              rintro e w1 ⟨rfl, rfl⟩
              obtain ⟨q, hq⟩ : ∃ q, checkOf o m = q := ⟨_, rfl⟩
              rw [hq]
              by_cases h4 : q = 0
              · subst h4
                go_wp2_with fail
                all_goals go_meet
                all_goals exact ⟨by rw [decide_eq_false (by have := hq; omega)], rfl⟩
              · have hdummy := True.intro
                have h4' : (q == 0) = false := by simpa using h4
                go_wp2_with fail
                all_goals go_meet
                all_goals exact ⟨by rw [show (q != 0) = true from by simpa using h4, decide_eq_true (by have := hq; omega)], rfl⟩
            · have hdummy := True.intro
              have h3I : ¬ (n' : Int) = n := by omega
              have h3' : ((n' : Int) == n) = false := by simpa using h3I
              go_wp2_with fail
              refine (rmay_any _ _ _ _ _ _ R m (by omega)).mono ?_
              rintro e w1 ⟨rfl, rfl⟩
              rw [h2]
              go_wp2_with fail
              all_goals go_meet
              all_goals exact ⟨by rw [decide_eq_true (Or.inr (Or.inr (Or.inl h3)))], rfl⟩
          · have hdummy := True.intro
            have HH := Lib.hid h2
            go_wp2_with fail
            refine (rmay_any _ _ _ _ _ _ R m (by omega)).mono ?_
            rintro e w1 ⟨rfl, rfl⟩
            obtain ⟨q, hq⟩ : ∃ q, mayV f m = q := ⟨_, rfl⟩
            rw [hq] at h2 ⊢
            have h2' : (q == 0) = false := by simpa using h2
            go_wp2_with fail
            all_goals go_meet
            all_goals exact ⟨by rw [decide_eq_true (Or.inr (Or.inl HH.out))], rfl⟩
    case rest =>
      obtain ⟨rfl, hw⟩ := hcut
      obtain rfl := hw.symm
      by_cases hbad : 288 < n ∨ mayV f m ≠ 0 ∨ n' ≠ n ∨ checkOf o m ≠ 0
      · rw [decide_eq_true hbad]
        go_wp2_with fail
        refine (answers5_any _).mono ?_
        rintro e w4 ⟨rfl, hb4⟩
        go_wp2
        go_ret
        exact ⟨rfl, hb4⟩
      · rw [decide_eq_false hbad]
        have hn288 : n ≤ 288 := by omega
        have hmv : mayV f m = 0 := by omega
        obtain rfl : n' = n := by omega
        have hck : checkOf o m = 0 := by omega
        have HMV := Lib.hid (⟨hmv, hck⟩ : _ ∧ _)
        have hnI : (n' : Int) ≤ 288 := by omega
        clear hbad hmv hck hn hn'
        go_wp2_with fail
        go_loopg [8] n' (fun (g : Nat) (v8 : Value) wx => ∃ i : Nat, v8 = .int .i64 i ∧ wx = w ∧ i ≤ n' ∧ Hid (∀ j, j < i → 0 < ix f j → ix o j ≠ 0) ∧ Hid (g = n' - i))
        case atStart => exact ⟨0, rfl, rfl, Nat.zero_le _, fun j hj => by omega, rfl⟩
        case round =>
          obtain ⟨i, rfl, hw2, hi, hall, hg⟩ := hrel
          obtain rfl := hw2.symm
          by_cases hlt : i < n'
          · have hltI : (i : Int) < (n' : Int) ∧ (0 : Int) ≤ i := by omega
            obtain ⟨v, hv⟩ : ∃ v, ix f i = v := ⟨_, rfl⟩
            obtain ⟨ad, rfl, hadb, hcv⟩ := R.at_ (i := i) hlt
            obtain ⟨u, hu⟩ : ∃ u, ix o i = u := ⟨_, rfl⟩
            obtain ⟨ad', rfl, hadb', hcu⟩ := R'.at_ (i := i) hlt
            rw [hv] at hcv
            rw [hu] at hcu
            have HX := Lib.hid (⟨hv, hu, hlt⟩ : _ ∧ _ ∧ _)
            clear hv hu
            by_cases g1 : 0 < v
            · by_cases g2 : u = 0
              · subst g2
                go_wp2_with fail
                refine (answers5_any _).mono ?_
                rintro e w4 ⟨rfl, hb4⟩
                go_wp2
                go_ret
                exact ⟨rfl, hb4⟩
              · have g2' : (u == 0) = false := by simpa using g2
                go_wp2_with fail
                go_roundg (n' - (i + 1))
                case measure => have := hg.out; have := HX.out.2.2; omega
                case rel => exact ⟨i + 1, by go_num, rfl, HX.out.2.2, fun j hj h0 => by
                  by_cases e : j = i
                  · subst e; rw [HX.out.2.1]; exact g2
                  · exact hall.out j (by omega) h0, rfl⟩
            · go_wp2_with fail
              go_roundg (n' - (i + 1))
              case measure => have := hg.out; have := HX.out.2.2; omega
              case rel => exact ⟨i + 1, by go_num, rfl, HX.out.2.2, fun j hj h0 => by
                by_cases e : j = i
                · subst e; rw [HX.out.1] at h0; omega
                · exact hall.out j (by omega) h0, rfl⟩
          · obtain rfl : i = n' := by omega
            have hltI : ¬ (i : Int) < (i : Int) := by omega
            clear hlt
            go_wp2_with fail
            refine (lengths_any _ _ _ _ f R m (by omega)).mono ?_
            rintro e w1 ⟨AL, cL, L, rfl, hb, ho, -, hR⟩
            have hR := hR HMV.out.1
            rw [HMV.out.1]
            obtain ⟨hLl, hLL⟩ := hR
            have hLn : L.length = i := by rw [hLl]; exact HNF.out.symm
            rw [hLn] at ho ⊢
            have R2 := R.below hb
            have R2' := R'.below hb
            have HR := Lib.hid (show LenRes f m L from ⟨hLl, by simpa using hLL⟩)
            have HALL := Lib.hid hall.out
            clear hLl hLL hLn hall
            go_wp2_with fail
            go_loopg [11, 12] i (fun (g : Nat) (v11 v12 : Value) wx => ∃ (j cn : Nat), v11 = .int .i64 cn ∧ v12 = .int .i64 j ∧ wx = w1 ∧ j ≤ i ∧ Hid (cn = (posI f j).length) ∧ Hid (g = i - j))
            case atStart => exact ⟨0, 0, rfl, rfl, rfl, Nat.zero_le _, rfl, rfl⟩
            case round =>
              obtain ⟨j, cn, rfl, rfl, hw3, hj, hcn, hg3⟩ := hrel
              obtain rfl := hw3.symm
              have hcb : (0 : Int) ≤ cn ∧ (cn : Int) ≤ 288 := by have := hcn.out; have := pos_len f j; omega
              by_cases hlt : j < i
              · have hltI : (j : Int) < (i : Int) ∧ (0 : Int) ≤ j := by omega
                obtain ⟨v, hv⟩ : ∃ v, ix f j = v := ⟨_, rfl⟩
                obtain ⟨ad, rfl, hadb, hcv⟩ := R2.at_ (i := j) hlt
                rw [hv] at hcv
                have HX := Lib.hid (⟨hv, hlt⟩ : _ ∧ _)
                clear hv
                by_cases g1 : 0 < v
                · have hps : posI f (j + 1) = posI f j ++ [(j : Int)] := by rw [posI, if_pos (by rw [HX.out.1]; exact g1)]
                  have HPS := Lib.hid hps
                  clear hps
                  go_wp2_with fail
                  go_roundg (i - (j + 1))
                  case measure => have := hg3.out; have := HX.out.2; omega
                  case rel => exact ⟨j + 1, cn + 1, by go_num, by go_num, rfl, HX.out.2, by show _ = _; rw [HPS.out, List.length_append, ← hcn.out]; rfl, rfl⟩
                · have hps : posI f (j + 1) = posI f j := by rw [posI, if_neg (by rw [HX.out.1]; exact g1), List.append_nil]
                  have HPS := Lib.hid hps
                  clear hps
                  go_wp2_with fail
                  go_roundg (i - (j + 1))
                  case measure => have := hg3.out; have := HX.out.2; omega
                  case rel => exact ⟨j + 1, cn, rfl, by go_num, rfl, HX.out.2, by show _ = _; rw [HPS.out]; exact hcn.out, rfl⟩
              · obtain rfl : j = i := by omega
                have hltI : ¬ (j : Int) < (j : Int) := by omega
                clear hlt
                go_wp2_with fail
                refine (answers5_any _).mono ?_
                rintro e w4 ⟨rfl, hb4⟩
                have hb14 := hb.trans (hb4.mono hb.size)
                by_cases g2 : cn < 2
                · have g2I : (cn : Int) < 2 := by omega
                  go_wp2_with fail
                  go_ret
                  exact ⟨rfl, hb14⟩
                · have g2I : ¬ (cn : Int) < 2 := by omega
                  have hle := HR.out.least HMV.out.1 HMV.out.2 (by rw [← HNO.out, ← HNF.out]) (fun k hk => HALL.out k (by rw [HNF.out]; exact hk)) (by rw [← HNF.out]; have := hcn.out; omega)
                  rw [← HNF.out] at hle
                  have HLE := Lib.hid hle
                  clear hle
                  have R4 := (R2.below (hb4.mono hb.size)).more hb.size
                  have R4' := (R2'.below (hb4.mono hb.size)).more hb.size
                  have RL := ho.rd.below hb4
                  go_wp2_with fail
                  refine (cost_any _ _ _ _ _ _ _ _ _ _ RL R4 (by omega) (by omega)).mono ?_
                  rintro e w5 ⟨rfl, q1, rfl⟩
                  rw [Nat.min_self]
                  go_wp2_with fail
                  refine (cost_any _ _ _ _ _ _ _ _ _ _ (R4'.drewN _) (R4.drewN _) (by omega) (by omega)).mono ?_
                  rintro e w5 ⟨rfl, q2, rfl⟩
                  rw [Nat.min_self]
                  obtain ⟨K1, hK1⟩ : ∃ K, K = costTo L f j := ⟨_, rfl⟩
                  obtain ⟨K2, hK2⟩ : ∃ K, K = costTo o f j := ⟨_, rfl⟩
                  have hK : K1 ≤ K2 := by rw [hK1, hK2]; exact HLE.out
                  rw [← hK1, ← hK2]
                  clear hK1 hK2
                  go_wp2_with fail
                  go_ret
                  exact ⟨by simp, ⟨hb14.os, hb14.tape, hb14.output, hb14.size, hb14.block⟩⟩
end Go.Proofs.Ytbllgifmidnkhaa
