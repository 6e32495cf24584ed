/-
  The walk of the law CodePrefix.
-/
import Derived.Test.YtllndcngccjooaaProg
import Derived.Test.YtllndcngccjooaaCodes
import Derived.Test.YtllndcngccjooaaCheck
import Derived.Test.YtllndcngccjooaaAnswers
import Derived.Test.YtllndcngccjooaaTree
namespace Go.Proofs.Ytllndcngccjooaa
open Go.RowKit
set_option linter.unusedVariables false

theorem drew3 (w : World) (a b c : Nat) : ((w.drewN a).drewN b).drewN c = w.drewN (a + (b + c)) := by rw [World.drewN_drewN, World.drewN_drewN]
theorem shr_zero {C v : Nat} (h : C < 2 ^ v) : (((C : Nat) : Int) / 2 ^ v != 0) = false := by
  have : ((C : Nat) : Int) / 2 ^ v = 0 := by
    have e : (2 : Int) ^ v = ((2 ^ v : Nat) : Int) := by simp
    rw [e, ← Int.natCast_ediv, Nat.div_eq_of_lt h]; rfl
  rw [this]; rfl

set_option maxRecDepth 100000 in
set_option maxHeartbeats 2000000 in
theorem codePrefix_walk (A : Option Addr) (n c : Nat) (l : List Int) (bits : Int) (w : World) (hl : RdI .i64 w w.heap.size A n l) (hn0 : n ≤ maxLen) (hwf : ∀ x ∈ l, (Lit.int .i64 x).wf = true)
    (hbits : (Lit.int .u16 bits).wf = true) :
    Calls Try.prog 5 #[.slice A n c, .int .u16 bits] w fun e w' => e = .returned (.bool true) ∧ Below w.heap.size w w' := by
  have hnI : (n : Int) ≤ 9223372036854775807 := by unfold maxLen at hn0; omega
  have hbb : 0 ≤ bits ∧ bits ≤ 65535 := by simpa [Lit.wf, IntKind.min, IntKind.max, IntKind.signed, IntKind.bits] using hbits
  clear hn0 hwf hbits
  by_cases h1 : (300 : Int) < n
  · go_enter Try.func5, Try.ntmps5
    go_wp2_with fail
    refine (answers_any _).mono ?_
    rintro e w1 ⟨rfl, hb⟩
    go_wp2_with fail
    refine (answers_any _).mono ?_
    rintro e w2 ⟨rfl, hb2⟩
    go_wp2
    go_ret
    exact ⟨rfl, hb.trans (hb2.mono hb.size)⟩
  · by_cases hck : checkOf l 15 = 0
    · obtain ⟨hle, hin, hS, hful⟩ := check_ok hck
      have HCK := Lib.hid hck
      have Hin := Lib.hid hin
      have Hful := Lib.hid hful
      have HS := Lib.hid hS
      have hn2 : n ≤ 288 := by have := hl.1; omega
      have hnl := Lib.hid hl.1
      clear hck hin hful hS hle
      go_enter Try.func5, Try.ntmps5
      go_wp2_with fail
      refine (answers_any _).mono ?_
      rintro e w1 ⟨rfl, hb⟩
      have hl1 := hl.below hb
      go_wp2_with fail
      refine (check_any _ _ _ _ _ _ _ hl1 (by omega)).mono ?_
      rintro e w2 ⟨rfl, rfl⟩
      rw [HCK.out]
      go_wp2_with fail
      refine (codes_any _ _ _ _ _ _ hl1 hb.size hn2).mono ?_
      rintro e w2 ⟨g, rfl, hc, hb2⟩
      have hb2' := hb.trans (hb2.mono hb.size)
      have hl2 := hl.below hb2'
      go_wp2
      obtain ⟨x, hx⟩ : ∃ x : Nat, (x : Int) = bits % 32768 := ⟨(bits % 32768).toNat, by omega⟩
      have hxl : x < 32768 := by omega
      have Hx := Lib.hid hx
      clear hx
      go_loopw [6, 7, 8] (fun b s i wr => ∃ k q : Nat, k ≤ n ∧ i = .int .i64 k ∧ b = .int .i64 (hitsTo l x k) ∧ s = .int .i64 (posTo l k) ∧ wr = w2.drewN q) (fun _ _ i _ => n - (intOf i).toNat)
      case atStart => exact ⟨0, 0, Nat.zero_le _, rfl, rfl, rfl, rfl⟩
      case round =>
        obtain ⟨k, q, hk, rfl, rfl, rfl, rfl⟩ := hrel
        have b1 := posTo_le l k
        have b2 := hitsTo_bd l x k
        by_cases hlt : k < n
        · obtain ⟨a1, rfl, _, e1⟩ := hl2.at_ hlt
          have e2 := hc.head hlt
          have hkk := Hin.out k (by rw [← hnl.out]; exact hlt)
          by_cases hz : ix l k = 0
          · have HP := Lib.hid (show posTo l (k + 1) = posTo l k by simp [posTo, hz])
            have HT := Lib.hid (show hitsTo l x (k + 1) = hitsTo l x k by simp [hitsTo, hits, isLen, hz])
            rw [hz] at e1
            clear hz hkk
            go_wp2
            go_roundw
            case rel => exact ⟨k + 1, _, by omega, by go_num, by rw [HT.out], by rw [HP.out], rfl⟩
            case measure => simp [intOf]; omega
          · obtain ⟨v, hv⟩ : ∃ v : Nat, ix l k = (v : Int) := ⟨(ix l k).toNat, by omega⟩
            have hv1 : 1 ≤ v ∧ v ≤ 15 := by omega
            have hv1' : (1 : Int) ≤ v ∧ (v : Int) ≤ 15 := by omega
            have hz' : ((v : Int) == 0) = false := by simp; omega
            rw [ix_codesOf l (by rw [← hnl.out]; exact hn2) (by rw [← hnl.out]; exact hlt)] at e2
            obtain ⟨C, hC⟩ : ∃ C : Nat, codeAt l k = C := ⟨_, rfl⟩
            have hCl : C < 2 ^ v := by rw [← hC]; exact code_fits hv1.1 hv1.2 hv (by rw [← hnl.out]; exact hlt) HS.out
            rw [hC] at e2
            rw [hv] at e1
            have HV := Lib.hid hv
            have HC := Lib.hid hC
            have HCl := Lib.hid hCl
            have hCb : (0 : Int) ≤ C ∧ (C : Int) < 32768 := by
              have : 2 ^ v ≤ 2 ^ 15 := Nat.pow_le_pow_right (by omega) hv1.2
              omega
            have hk0 : (0 : Int) ≤ k ∧ (k : Int) < n := by omega
            have hs0 := shr_zero HCl.out
            have HP := Lib.hid (show posTo l (k + 1) = posTo l k + 1 by simp only [posTo]; rw [hv, if_pos (by omega)])
            have hd : (((x : Nat) : Int) / 2 ^ (15 - v) = (C : Int)) ↔ hits l x k = true := by
              have e : (2 : Int) ^ (15 - v) = ((p15 v : Nat) : Int) := (p15_int v).symm
              rw [e, ← Int.natCast_ediv]
              unfold hits
              rw [hv, hC, Int.toNat_natCast, (show isLen (v : Int) = true by simp [isLen]; omega)]
              simp only [Bool.true_and, decide_eq_true_eq]
              omega
            rw [Hx.out] at hd
            have Hd := Lib.hid hd
            clear hv hC hz hkk hCl hd
            by_cases hh : hits l x k = true
            · have tt : (bits % 32768 / 2 ^ (15 - v) == (C : Int)) = true := by simpa using Hd.out.2 hh
              have HT := Lib.hid (show hitsTo l x (k + 1) = hitsTo l x k + 1 by simp [hitsTo, hh])
              clear hh
              go_wp2
              go_quiet (fail)
              go_wp2
              go_quiet (fail)
              go_wp2
              go_loopw [9] (fun i wr => ∃ j q : Nat, j ≤ n ∧ i = .int .i64 j ∧ wr = w2.drewN q) (fun i _ => n - (intOf i).toNat)
              case atStart => first | exact ⟨0, _, Nat.zero_le _, rfl, rfl⟩ | exact ⟨0, _, Nat.zero_le _, rfl, drew3 _ _ _ _⟩
              case round =>
                obtain ⟨j, q2, hj, rfl, rfl⟩ := hrel
                by_cases hjn : j < n
                · have f2 := hc.head hjn
                  obtain ⟨_, hae, _, f1⟩ := hl2.at_ hjn
                  obtain rfl := Option.some.inj hae
                  clear hae
                  have hj0 : (0 : Int) ≤ j ∧ (j : Int) < n := by omega
                  by_cases hjk : j = k
                  · have t0 : (((j : Nat) : Int) != (k : Int)) = false := by subst hjk; simp
                    clear hjk
                    go_wp2
                    go_quiet (fail)
                    go_wp2
                    go_roundw
                    case rel => exact ⟨j + 1, _, by omega, by go_num, rfl⟩
                    case measure => simp [intOf]; omega
                  · have t0 : (((j : Nat) : Int) != (k : Int)) = true := by simp; omega
                    by_cases hjv : ix l j < v
                    · have t1 : decide ((v : Int) ≤ ix l j) = false := by simp; omega
                      clear hjk
                      go_wp2
                      go_quiet (fail)
                      go_wp2
                      go_roundw
                      case rel => exact ⟨j + 1, _, by omega, by go_num, rfl⟩
                      case measure => simp [intOf]; omega
                    · have hkj := Hin.out j (by rw [← hnl.out]; exact hjn)
                      obtain ⟨u, hu⟩ : ∃ u : Nat, ix l j = (u : Int) := ⟨(ix l j).toNat, by omega⟩
                      rw [ix_codesOf l (by rw [← hnl.out]; exact hn2) (by rw [← hnl.out]; exact hjn)] at f2
                      have t2 : ((((codeAt l j : Nat) : Int) / 2 ^ (u - v)) == (C : Int)) = false := by
                        rw [beq_eq_false_iff_ne]
                        have := no_prefix hv1.1 (by omega) (by omega) HV.out hu (by rw [← hnl.out]; exact hlt) hjk
                        rw [HC.out] at this
                        have e : (2 : Int) ^ (u - v) = ((2 ^ (u - v) : Nat) : Int) := by simp
                        rw [e, ← Int.natCast_ediv]
                        omega
                      have t3 : (v : Int) ≤ u ∧ (u : Int) ≤ 15 := by omega
                      have t1 : decide ((v : Int) ≤ (u : Int)) = true := by simp; omega
                      rw [hu] at f1
                      have cj : (0 : Int) ≤ ((codeAt l j : Nat) : Int) := by omega
                      obtain ⟨D, hD⟩ : ∃ D : Nat, codeAt l j = D := ⟨_, rfl⟩
                      rw [hD] at f2 t2 cj
                      clear hu hjv hkj hjk hD
                      go_wp2
                      go_quiet (fail)
                      go_wp2
                      go_roundw
                      case rel => exact ⟨j + 1, _, by omega, by go_num, rfl⟩
                      case measure => simp [intOf]; omega
                · obtain rfl : n = j := by omega
                  go_wp2
                  go_roundw
                  case rel => exact ⟨k + 1, _, by omega, by go_num, by rw [HT.out]; go_num, by rw [HP.out]; go_num, rfl⟩
                  case measure => simp [intOf]; omega
            · have tt : (bits % 32768 / 2 ^ (15 - v) == (C : Int)) = false := by
                rw [beq_eq_false_iff_ne]
                exact fun h => hh (Hd.out.1 h)
              have HT := Lib.hid (show hitsTo l x (k + 1) = hitsTo l x k by simp [hitsTo, hh])
              clear hh
              go_wp2
              go_quiet (fail)
              go_wp2
              go_quiet (fail)
              go_wp2
              go_loopw [9] (fun i wr => ∃ j q : Nat, j ≤ n ∧ i = .int .i64 j ∧ wr = w2.drewN q) (fun i _ => n - (intOf i).toNat)
              case atStart => first | exact ⟨0, _, Nat.zero_le _, rfl, rfl⟩ | exact ⟨0, _, Nat.zero_le _, rfl, drew3 _ _ _ _⟩
              case round =>
                obtain ⟨j, q2, hj, rfl, rfl⟩ := hrel
                by_cases hjn : j < n
                · have f2 := hc.head hjn
                  obtain ⟨_, hae, _, f1⟩ := hl2.at_ hjn
                  obtain rfl := Option.some.inj hae
                  clear hae
                  have hj0 : (0 : Int) ≤ j ∧ (j : Int) < n := by omega
                  by_cases hjk : j = k
                  · have t0 : (((j : Nat) : Int) != (k : Int)) = false := by subst hjk; simp
                    clear hjk
                    go_wp2
                    go_quiet (fail)
                    go_wp2
                    go_roundw
                    case rel => exact ⟨j + 1, _, by omega, by go_num, rfl⟩
                    case measure => simp [intOf]; omega
                  · have t0 : (((j : Nat) : Int) != (k : Int)) = true := by simp; omega
                    by_cases hjv : ix l j < v
                    · have t1 : decide ((v : Int) ≤ ix l j) = false := by simp; omega
                      clear hjk
                      go_wp2
                      go_quiet (fail)
                      go_wp2
                      go_roundw
                      case rel => exact ⟨j + 1, _, by omega, by go_num, rfl⟩
                      case measure => simp [intOf]; omega
                    · have hkj := Hin.out j (by rw [← hnl.out]; exact hjn)
                      obtain ⟨u, hu⟩ : ∃ u : Nat, ix l j = (u : Int) := ⟨(ix l j).toNat, by omega⟩
                      rw [ix_codesOf l (by rw [← hnl.out]; exact hn2) (by rw [← hnl.out]; exact hjn)] at f2
                      have t2 : ((((codeAt l j : Nat) : Int) / 2 ^ (u - v)) == (C : Int)) = false := by
                        rw [beq_eq_false_iff_ne]
                        have := no_prefix hv1.1 (by omega) (by omega) HV.out hu (by rw [← hnl.out]; exact hlt) hjk
                        rw [HC.out] at this
                        have e : (2 : Int) ^ (u - v) = ((2 ^ (u - v) : Nat) : Int) := by simp
                        rw [e, ← Int.natCast_ediv]
                        omega
                      have t3 : (v : Int) ≤ u ∧ (u : Int) ≤ 15 := by omega
                      have t1 : decide ((v : Int) ≤ (u : Int)) = true := by simp; omega
                      rw [hu] at f1
                      have cj : (0 : Int) ≤ ((codeAt l j : Nat) : Int) := by omega
                      obtain ⟨D, hD⟩ : ∃ D : Nat, codeAt l j = D := ⟨_, rfl⟩
                      rw [hD] at f2 t2 cj
                      clear hu hjv hkj hjk hD
                      go_wp2
                      go_quiet (fail)
                      go_wp2
                      go_roundw
                      case rel => exact ⟨j + 1, _, by omega, by go_num, rfl⟩
                      case measure => simp [intOf]; omega
                · obtain rfl : n = j := by omega
                  go_wp2
                  go_roundw
                  case rel => exact ⟨k + 1, _, by omega, by go_num, by rw [HT.out], by rw [HP.out]; go_num, rfl⟩
                  case measure => simp [intOf]; omega
        · obtain rfl : n = k := by omega
          have hfin : posTo l n < 2 ∨ hitsTo l x n = 1 := by
            rcases Hful.out with h | h
            · right; rw [hnl.out]; exact hitsTo_one h hxl
            · left; have := alone_count h; rw [← hnl.out] at this; omega
          have hb3 := below_drewN hb2' q
          rcases hfin with hp | hp
          · have hp' : ((posTo l n : Nat) : Int) < 2 := by omega
            go_wp2_with fail
            refine (answers_any _).mono ?_
            rintro e w3 ⟨rfl, hb4⟩
            go_wp2
            go_ret
            exact ⟨rfl, hb3.trans (hb4.mono hb3.size)⟩
          · rw [hp]
            go_wp2_with fail
            refine (answers_any _).mono ?_
            rintro e w3 ⟨rfl, hb4⟩
            by_cases hp2 : ((posTo l n : Nat) : Int) < 2
            · go_wp2
              go_ret
              exact ⟨rfl, hb3.trans (hb4.mono hb3.size)⟩
            · go_wp2
              go_ret
              exact ⟨rfl, hb3.trans (hb4.mono hb3.size)⟩
    · have hck' : (checkOf l 15 == 0) = false := by simpa using hck
      go_enter Try.func5, Try.ntmps5
      go_wp2_with fail
      refine (answers_any _).mono ?_
      rintro e w1 ⟨rfl, hb⟩
      have hl1 := hl.below hb
      go_wp2_with fail
      refine (check_any _ _ _ _ _ _ _ hl1 (by omega)).mono ?_
      rintro e w2 ⟨rfl, rfl⟩
      obtain ⟨T, hT⟩ : ∃ T : Int, checkOf l 15 = T := ⟨_, rfl⟩
      rw [hT] at hck' ⊢
      clear hT hck
      go_wp2_with fail
      refine (answers_any _).mono ?_
      rintro e w2 ⟨rfl, hb2⟩
      go_wp2
      go_ret
      exact ⟨rfl, hb.trans (hb2.mono hb.size)⟩
end Go.Proofs.Ytllndcngccjooaa
