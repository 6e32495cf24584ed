/-
  The walk of the law LimitFlat.
-/
import Derived.Test.YtbllgifmidnkhaaProg
import Derived.Test.YtbllgifmidnkhaaAns5
import Derived.Test.YtbllgifmidnkhaaLimF
import Derived.Test.YtbllgifmidnkhaaOpenC
import Derived.BigRegion
namespace Go.Proofs.Ytbllgifmidnkhaa
open Go.RowKit
set_option linter.unusedVariables false
def FlR (w : World) (a : Int) (T : Nat) (k : Nat) (v9 v10 : Value) (wr : World) : Prop :=
  ∃ (i c : Nat) (A : Option Addr), v9 = .slice A i c ∧ v10 = .int .i64 i ∧ i ≤ T ∧ Hid (OwnI .i64 wr w.heap.size 3 A i c (List.replicate i a)) ∧ Hid (Below w.heap.size w wr) ∧ Hid (k = T - i)
set_option maxRecDepth 100000 in
set_option maxHeartbeats 4000000 in
theorem lflat_law (nn often most : Int) (w : World) (hnn : (Lit.int .u8 nn).wf = true) (hof : (Lit.int .u16 often).wf = true) (hmost : (Lit.int .u8 most).wf = true) :
    Calls Try.prog 4 #[.int .u8 nn, .int .u16 often, .int .u8 most] w fun e w' => e = .returned (.bool true) ∧ Below w.heap.size w w' := by
  obtain ⟨i0, hi, hz0, hz1, hz2⟩ := info_parts lint_info
  have Hi := Lib.hid hi
  have Hz0 := Lib.hid hz0
  have Hz1 := Lib.hid hz1
  have Hz2 := Lib.hid hz2
  have hnb := bounds_u8 hnn
  have hmb := bounds_u8 hmost
  have hob := bounds_u16 hof
  obtain ⟨k, hk⟩ : ∃ k : Nat, nn % 8 + 1 = (k : Int) := ⟨(nn % 8 + 1).toNat, by omega⟩
  obtain ⟨m, hm⟩ : ∃ m : Nat, most % 15 + 1 = (m : Int) := ⟨(most % 15 + 1).toNat, by omega⟩
  obtain ⟨m3, hm3⟩ : ∃ m : Nat, 3 + most % 13 = (m : Int) := ⟨(3 + most % 13).toNat, by omega⟩
  have hk1 : (1 : Int) ≤ k ∧ (k : Int) ≤ 8 ∧ 1 ≤ k ∧ k ≤ 8 := by omega
  have hm1 : (1 : Int) ≤ m ∧ (m : Int) ≤ 15 := by omega
  have hm31 : (3 : Int) ≤ m3 ∧ (m3 : Int) ≤ 15 := by omega
  obtain ⟨a, ha⟩ : ∃ a : Int, often + 1 = a := ⟨_, rfl⟩
  obtain ⟨a4, ha4⟩ : ∃ a : Int, often + 4 = a := ⟨_, rfl⟩
  have hab : 0 < a ∧ a ≤ 1048576 := by omega
  have ha4b : 4 ≤ a4 ∧ a4 ≤ 1048576 := by omega
  have HK := Lib.hid hk
  have HM := Lib.hid hm
  have HM3 := Lib.hid hm3
  have HA := Lib.hid ha
  have HA4 := Lib.hid ha4
  obtain ⟨T, hT⟩ : ∃ T, 2 ^ k = T := ⟨_, rfl⟩
  have hTb : 1 ≤ T ∧ T ≤ 256 := by
    rw [← hT]
    exact ⟨Nat.two_pow_pos _, Nat.le_trans (Nat.pow_le_pow_right (by omega) hk1.2.2.2) (by decide)⟩
  have hTI : (2 : Int) ^ k = (T : Int) := by rw [← hT]; simp
  have hTw : IntKind.i64.wrap (T : Int) = (T : Int) := IntWalk.i64_in _ (by omega)
  have HT := Lib.hid hT
  have hTbI : (T : Int) ≤ 256 := by omega
  clear hi hz0 hz1 hz2 hk hm hm3 ha ha4 hT hnn hof hmost
  go_enter Try.func4, Try.ntmps4
  go_upto_region 1 with fail
  go_cut [7] (fun s wx => s = .int .i64 (k : Nat) ∧ wx = w)
  case first =>
    as_aux_lemma =>
      go_wp2_with fail
      all_goals go_meet
      all_goals exact ⟨by rw [HK.out], rfl⟩
  case rest =>
    obtain ⟨rfl, hw⟩ := hcut
    obtain rfl := hw.symm
    go_upto_region 2 with fail
    go_cut [8] (fun s wx => s = .int .i64 (m : Nat) ∧ wx = w)
    case first =>
      as_aux_lemma =>
        go_wp2_with fail
        all_goals go_meet
        all_goals exact ⟨by rw [HM.out], rfl⟩
    case rest =>
      obtain ⟨rfl, hw⟩ := hcut
      obtain rfl := hw.symm
      by_cases hkm : m < k
      · have hkmI : (m : Int) < (k : Int) := by omega
        go_wp2_with fail
        refine (answers5_any _).mono ?_
        rintro e w4 ⟨rfl, hb4⟩
        go_wp2
        go_ret
        exact ⟨rfl, hb4⟩
      · have hkmI : ¬ (m : Int) < (k : Int) := by omega
        have HKM := Lib.hid hkm
        go_wp2_with fail
        go_loopg [9, 10] T (FlR w a T)
        case atStart => exact ⟨0, 0, none, rfl, rfl, Nat.zero_le _, OwnI.nil_, Below.refl _ _, rfl⟩
        case round =>
          obtain ⟨i, c, A, rfl, rfl, hi, ho, hb, hg⟩ := hrel
          by_cases hlt : i < T
          · have hltI : (i : Int) < (T : Int) ∧ (0 : Int) ≤ i := by omega
            have hlt2 : decide ((T : Int) ≤ i) = false := decide_eq_false (by omega)
            have hoA := ho.out.alloc (.cells #[.int .i64 a] 3)
            have hbA := hb.out.alloc hb.out.size (.cells #[.int .i64 a] 3)
            have hal : Hid (RdI .i64 (wr.alloc (.cells #[.int .i64 a] 3)) (wr.heap.size + 1) (some ⟨wr.heap.size, 0, none⟩) 1 [a]) := RdI.lit .i64 wr [a] 3
            have HLT := Lib.hid hlt
            have haw : often + 1 = a := HA.out
            have haw2 : IntKind.i64.wrap (often + 1) = a := by rw [IntWalk.i64_in _ (by omega)]; exact haw
            clear hlt
            go_wp2_with (at_builtin; (try rw [haw]); (refine wpList_app .i64 w.heap.size 3 i0 8 rfl (.tmp 36) (.tmp 40) _ rfl Try.underlying22 Hi.out Hz0.out Hz1.out Hz2.out rfl hoA rfl hal.out (by omega) (by omega) hbA.size ?_)
                         intro A4 d4 w4 hown4 hg4 hat4)
            have h5 := Lib.hid (show OwnI .i64 w4 w.heap.size 3 A4 (i + 1) d4 (List.replicate (i + 1) a) from by rw [List.replicate_succ']; exact hown4)
            have hb5 : Hid (Below w.heap.size w w4) := hbA.grown hg4 hbA.size fun q hq => (ho.out.2.lt hq).1
            clear hown4 hg4 hat4 hoA hbA hal
            go_wp2_with fail
            go_roundg (T - (i + 1))
            case measure => have := hg.out; have := HLT.out; omega
            case rel => exact ⟨i + 1, d4, A4, rfl, by go_num, HLT.out, h5, hb5, rfl⟩
          · obtain rfl : i = T := by omega
            have hltI : ¬ (i : Int) < (i : Int) := by omega
            have R := ho.out.rd
            have hmv := flat_may hab.1 hab.2 hk1.2.2.2 hk1.2.2.1 (show k ≤ m by omega) (by omega)
            rw [HT.out] at hmv
            have HMV := Lib.hid hmv
            clear hlt hmv
            go_wp2_with fail
            refine (lengths_any _ _ _ _ _ R m (by omega)).mono ?_
            rintro e w1 ⟨AL, cL, L, rfl, hb1, ho1, -, hR⟩
            have hR := hR HMV.out
            rw [HMV.out]
            have hLn : L.length = i := by rw [hR.1]; exact List.length_replicate
            rw [hLn] at ho1 ⊢
            have HR : Hid (∀ j, j < i → ix L j = k) := by
              have h := LenRes.flat hab.1 hab.2 hk1.2.2.2 hk1.2.2.1 (show k ≤ m by have := HKM.out; omega) (by omega) (L := L) (by rw [HT.out]; simpa using hR)
              rw [HT.out] at h
              exact h
            have hb1' := hb.out.trans (hb1.mono hb.out.size)
            have RL := ho1.rd
            clear hR hLn ho1 R ho hb
            go_wp2_with fail
            refine (answers5_any _).mono ?_
            rintro e w2 ⟨rfl, hb2⟩
            have RL2 := (RL.below hb2).more hb2.size
            have hb2' := Lib.hid (hb1'.trans (hb2.mono hb1'.size))
            clear RL hb1' hb1 hb2
            go_wp2_with fail
            go_loopg [13] i (fun (g : Nat) (v13 : Value) wx => ∃ j : Nat, v13 = .int .i64 j ∧ j ≤ i ∧ wx = w2 ∧ Hid (g = i - j))
            case atStart => exact ⟨0, rfl, Nat.zero_le _, rfl, rfl⟩
            case round =>
              obtain ⟨j, rfl, hj, hw2, hg2⟩ := hrel
              obtain rfl := hw2.symm
              by_cases hlj : j < i
              · have hljI : (j : Int) < (i : Int) ∧ (0 : Int) ≤ j := by omega
                obtain ⟨ad, rfl, hd1, hcx⟩ := RL2.at_ hlj
                rw [HR.out j hlj] at hcx
                go_wp2_with fail
                go_roundg (i - (j + 1))
                case measure => have := hg2.out; omega
                case rel => exact ⟨j + 1, by go_num, hlj, rfl, rfl⟩
              · obtain rfl : j = i := by omega
                have hljI : ¬ (j : Int) < (j : Int) := by omega
                have hA4w : IntKind.i64.wrap (often + 4) = a4 := by rw [IntWalk.i64_in _ (by omega)]; exact HA4.out
                have hA4' := HA4.out
                have hal : Hid (RdI .i64 (w2.alloc (.cells #[.int .i64 1, .int .i64 2, .int .i64 a4, .int .i64 1] 3)) (w2.heap.size + 1) (some ⟨w2.heap.size, 0, none⟩) 4 [1, 2, a4, 1]) := RdI.lit .i64 w2 [1, 2, a4, 1] 3
                have hz : (w2.alloc (.cells #[.int .i64 1, .int .i64 2, .int .i64 a4, .int .i64 1] 3)).heap.size = w2.heap.size + 1 := by simp
                go_upto_region 18 with fail
                go_cut [14] (fun v wx => v = .slice (some ⟨w2.heap.size, 0, none⟩) 4 4 ∧ wx = w2.alloc (.cells #[.int .i64 1, .int .i64 2, .int .i64 a4, .int .i64 1] 3))
                case first =>
                  as_aux_lemma =>
                    go_wp2_with fail
                    all_goals go_meet
                    all_goals exact ⟨rfl, rfl⟩
                case rest =>
                  obtain ⟨rfl, rfl⟩ := hcut
                  have hb3' : Hid (Below w.heap.size w (w2.alloc (.cells #[.int .i64 1, .int .i64 2, .int .i64 a4, .int .i64 1] 3))) := hb2'.out.alloc hb2'.out.size _
                  have R3 := hal.out
                  rw [← hz] at R3
                  generalize w2.alloc (.cells #[.int .i64 1, .int .i64 2, .int .i64 a4, .int .i64 1] 3) = w3 at *
                  have hmv := big_may (m := m3) (show 0 < a4 by omega) ha4b.2 (by omega) (by omega)
                  have HMV := Lib.hid hmv
                  have hM3' := HM3.out
                  clear hmv hal hz RL2 hA4w hA4'
                  go_wp2_with fail
                  refine (lengths_any _ _ _ _ _ R3 m3 (by omega)).mono ?_
                  rintro e w5 ⟨AL5, cL5, L5, rfl, hb5, ho5, -, hR5⟩
                  have hR5 := hR5 HMV.out
                  rw [HMV.out]
                  have hLn5 : L5.length = 4 := hR5.1
                  rw [hLn5] at ho5 ⊢
                  have hx2 := LenRes.big (m := m3) (L := L5) ha4b.1 ha4b.2 (by omega) (by omega) (by simpa using hR5)
                  obtain ⟨a2, rfl, _, hc2⟩ := ho5.rd.at_ (i := 2) (by omega)
                  rw [hx2] at hc2
                  have hc2' := hc2
                  simp [Addr.add] at hc2'
                  have hb5' := Lib.hid (hb3'.out.trans (hb5.mono hb3'.out.size))
                  have hg1 : (2 : Int) < (4 : Nat) ∧ 2 < 4 := by decide
                  clear hR5 hLn5 ho5 hb5 R3 hM3'
                  go_wp2_with fail
                  go_ret
                  exact ⟨rfl, hb5'.out⟩
end Go.Proofs.Ytbllgifmidnkhaa
