/-
  The walk of the law LimitOrder.
-/
import Derived.Test.YtbllgifmidnkhaaProg
import Derived.Test.YtbllgifmidnkhaaAns5
import Derived.Test.YtbllgifmidnkhaaLimU
import Derived.Test.YtbllgifmidnkhaaCost
import Derived.Test.YtbllgifmidnkhaaOpenC
import Derived.BigRegion
namespace Go.Proofs.Ytbllgifmidnkhaa
open Go.RowKit
set_option linter.unusedVariables false

theorem may_up {f : List Int} {m : Nat} (h : mayV f (m : Int) = 0) (hm : m ≤ 14) : mayV f ((m + 1 : Nat) : Int) = 0 := by
  obtain ⟨m1, m2, m3, m4, m5⟩ := may_ok h
  rw [Int.toNat_natCast] at m5
  have := Nat.pow_le_pow_right (show 0 < 2 by omega) (show m ≤ m + 1 by omega)
  unfold mayV
  rw [if_neg (by omega), if_neg (by rw [bad_not m4]; decide), if_neg (by rw [Int.toNat_natCast]; omega)]
def OrdR (w wx : World) (B n : Nat) (A : Option Addr) (f : List Int) (AL : Option Addr) (L : List Int) : Prop :=
  Below w.heap.size w wx ∧ B ≤ wx.heap.size ∧ RdI .i64 wx B A n f ∧ RdI .i64 wx B AL n L
theorem OrdR.drewN {w wx : World} {B n : Nat} {A AL : Option Addr} {f L : List Int} (h : OrdR w wx B n A f AL L) (k : Nat) : OrdR w (wx.drewN k) B n A f AL L :=
  ⟨⟨h.1.os, h.1.tape, h.1.output, h.1.size, h.1.block⟩, h.2.1, h.2.2.1.drewN k, h.2.2.2.drewN k⟩
set_option maxRecDepth 100000 in
set_option maxHeartbeats 4000000 in
theorem lorder_law (A : Option Addr) (n c : Nat) (f : List Int) (most turn : Int) (w : World) (T : InC .i64 w A n c f) (hmost : (Lit.int .u8 most).wf = true) (hturn : (Lit.int .u16 turn).wf = true) :
    Calls Try.prog 6 #[.slice A n c, .int .u8 most, .int .u16 turn] w fun e w' => e = .returned (.bool true) ∧ Below w.heap.size w w' := by
  obtain ⟨R, m0, f0, lc0, cm0⟩ := T
  have hn : (n : Int) ≤ 9223372036854775807 ∧ (0 : Int) ≤ n := by unfold maxLen at m0; omega
  have hmb := bounds_u8 hmost
  obtain ⟨m, hm⟩ : ∃ m : Nat, most % 14 + 1 = (m : Int) := ⟨(most % 14 + 1).toNat, by omega⟩
  have hm1 : (1 : Int) ≤ m ∧ (m : Int) ≤ 14 := by omega
  obtain ⟨m', hm'⟩ : ∃ m' : Nat, m + 1 = m' := ⟨_, rfl⟩
  have hmm' : (m : Int) + 1 = (m' : Int) := by omega
  have hm2 : (1 : Int) ≤ m' ∧ (m' : Int) ≤ 15 := by omega
  have HM' := Lib.hid hm'
  have HNF := Lib.hid R.1
  have HM := Lib.hid hm
  have htb := bounds_u16 hturn
  have HTU := Lib.hid htb
  clear m0 f0 hmost hm hm' hturn htb
  go_enter Try.func6, Try.ntmps6
  go_upto_region 1 with fail
  go_cut [7] (fun s7 wx => s7 = .int .i64 (m : Nat) ∧ wx = w)
  case first =>
    as_aux_lemma =>
      go_wp2_with fail
      all_goals go_meet
      all_goals exact ⟨by rw [HM.out], rfl⟩
  case rest =>
    obtain ⟨rfl, hw⟩ := hcut
    obtain rfl := hw.symm
    go_upto_region 2 with fail
    go_cut [35] (fun v wx => v = .bool (decide (288 < n ∨ n = 0 ∨ mayV f m ≠ 0)) ∧ wx = w)
    case first =>
      as_aux_lemma =>
        by_cases h1 : 288 < n
        · have h1I : (288 : Int) < n := by omega
          go_wp2_with fail
          all_goals go_meet
          all_goals exact ⟨by rw [decide_eq_true (Or.inl h1)], rfl⟩
        · have h1I : ¬ (288 : Int) < n := by omega
          by_cases h3 : n = 0
          · subst h3
            go_wp2_with fail
            all_goals go_meet
            all_goals exact ⟨by simp, rfl⟩
          · have h3I : ¬ (n : Int) = 0 := by omega
            have h3' : ((n : Int) == 0) = false := by simpa using h3I
            have H1 := Lib.hid h1
            have H3 := Lib.hid h3
            by_cases h2 : mayV f m = 0
            · go_wp2_with fail
              refine (rmay_any _ _ _ _ _ _ R m (by omega)).mono ?_
              rintro e w1 ⟨rfl, rfl⟩
              rw [h2]
              go_wp2_with fail
              all_goals go_meet
              all_goals exact ⟨by rw [decide_eq_false (fun h => h.elim H1.out (fun h => h.elim H3.out (fun h => h h2)))], rfl⟩
            · have HH := Lib.hid h2
              go_wp2_with fail
              refine (rmay_any _ _ _ _ _ _ R m (by omega)).mono ?_
              rintro e w1 ⟨rfl, rfl⟩
              obtain ⟨q, hq⟩ : ∃ q, mayV f m = q := ⟨_, rfl⟩
              rw [hq] at h2 ⊢
              have h2' : (q == 0) = false := by simpa using h2
              go_wp2_with fail
              all_goals go_meet
              all_goals exact ⟨by rw [decide_eq_true (Or.inr (Or.inr HH.out)), show (q != 0) = true from by simpa using h2], rfl⟩
    case rest =>
      obtain ⟨rfl, hw⟩ := hcut
      obtain rfl := hw.symm
      by_cases hbad : 288 < n ∨ n = 0 ∨ mayV f m ≠ 0
      · rw [decide_eq_true hbad]
        go_wp2_with fail
        refine (answers5_any _).mono ?_
        rintro e w4 ⟨rfl, hb4⟩
        go_wp2
        go_ret
        exact ⟨rfl, hb4⟩
      · rw [decide_eq_false hbad]
        have hmv : mayV f m = 0 := by omega
        have hmv' : mayV f m' = 0 := by rw [← HM'.out]; exact may_up hmv (by omega)
        have hn1 : (n : Int) ≤ 288 ∧ (1 : Int) ≤ n := by omega
        have HMV := Lib.hid (⟨hmv, hmv'⟩ : _ ∧ _)
        clear hbad hmv hmv' hn
        go_wp2_with fail
        refine (lengths_any _ _ _ _ f R m (by omega)).mono ?_
        rintro e w1 ⟨AL, cL, L, rfl, hb, ho, -, hR⟩
        have hR := hR HMV.out.1
        rw [HMV.out.1]
        have hLn : L.length = n := by rw [hR.1]; exact HNF.out.symm
        rw [hLn] at ho ⊢
        have HR := Lib.hid (show LenRes f m L from by simpa using hR)
        have R1 := (R.below hb).more hb.size
        have RL := ho.rd
        clear hLn hR ho
        go_wp2_with fail
        refine (lengths_any _ _ _ _ f R1 m' (by omega)).mono ?_
        rintro e w2 ⟨AL', cL', L', rfl, hb2, ho', -, hR'⟩
        have hR' := hR' HMV.out.2
        rw [HMV.out.2]
        have hLn' : L'.length = n := by rw [hR'.1]; exact HNF.out.symm
        rw [hLn'] at ho' ⊢
        have HR' := Lib.hid (show LenRes f m' L' from by simpa using hR')
        have R2 := (R1.below hb2).more hb2.size
        have RL2 := (RL.below hb2).more hb2.size
        have RL' := ho'.rd
        have hbb := hb.trans (hb2.mono hb.size)
        have hle := LenRes.grow HR.out (by rw [HM'.out]; exact HR'.out) HMV.out.1 (by rw [HM'.out]; exact HMV.out.2)
        rw [← HNF.out] at hle
        have HLE := Lib.hid hle
        clear hLn' hR' ho' hle hb hb2 R R1 RL
        go_upto_region 6 with fail
        go_cut [68] (fun v68 wx => v68 = .bool false ∧ Below w.heap.size w wx ∧ Below w2.heap.size w2 wx)
        case first =>
          as_aux_lemma =>
            go_wp2_with fail
            refine (answers5_any _).mono ?_
            rintro e w3 ⟨rfl, hb3⟩
            have R3 := R2.below hb3
            have RL3 := RL2.below hb3
            have RL3' := RL'.below hb3
            have hb03 := hbb.trans (hb3.mono hbb.size)
            go_wp2_with fail
            refine (cost_any _ _ _ _ _ _ _ _ _ _ RL3' R3 (by omega) (by omega)).mono ?_
            rintro e w5 ⟨rfl, q1, rfl⟩
            rw [Nat.min_self]
            go_wp2_with fail
            refine (cost_any _ _ _ _ _ _ _ _ _ _ (RL3.drewN _) (R3.drewN _) (by omega) (by omega)).mono ?_
            rintro e w5 ⟨rfl, q2, rfl⟩
            rw [Nat.min_self]
            obtain ⟨K1, hK1⟩ : ∃ K, K = costTo L' f n := ⟨_, rfl⟩
            obtain ⟨K2, hK2⟩ : ∃ K, K = costTo L f n := ⟨_, rfl⟩
            have hK : ¬ K2 < K1 := by rw [hK1, hK2]; have := HLE.out; omega
            rw [← hK1, ← hK2]
            clear hK1 hK2
            go_wp2_with fail
            all_goals go_meet
            all_goals exact ⟨by simp <;> omega, ⟨hb03.os, hb03.tape, hb03.output, hb03.size, hb03.block⟩, ⟨hb3.os, hb3.tape, hb3.output, hb3.size, hb3.block⟩⟩
        case rest =>
          obtain ⟨rfl, hbw, hb2w⟩ := hcut
          have R3 := R2.below hb2w
          have RL3 := RL2.below hb2w
          have HMO := Lib.hid (fun (i j : Nat) (hi : i < f.length) (hj : j < f.length) => LenRes.order (i := i) (j := j) HR.out HMV.out.1 hi hj)
          have HW := Lib.hid (show OrdR w wc w2.heap.size n A f AL L from ⟨hbw, hb2w.size, R3, RL3⟩)
          clear R2 RL2 RL' hbb HLE HR' R3 RL3 hbw hb2w
          obtain ⟨B, hB⟩ : ∃ B, B = w2.heap.size := ⟨_, rfl⟩
          rw [← hB] at HW
          clear hB
          go_wp2_with fail
          go_loopg [12] n (fun (g : Nat) (v12 : Value) wx => ∃ i : Nat, v12 = .int .i64 i ∧ i ≤ n ∧ Hid (OrdR w wx B n A f AL L) ∧ Hid (g = n - i))
          case atStart => exact ⟨0, rfl, Nat.zero_le _, HW.out, rfl⟩
          case round =>
            obtain ⟨i, rfl, hi, hw1, hg⟩ := hrel
            by_cases hlt : i < n
            · have hltI : (i : Int) < (n : Int) ∧ (0 : Int) ≤ i ∧ 0 ≤ i := by omega
              go_wp2_with fail
              go_loopg [13] n (fun (g : Nat) (v13 : Value) wx => ∃ j : Nat, v13 = .int .i64 j ∧ j ≤ n ∧ Hid (OrdR w wx B n A f AL L) ∧ Hid (g = n - j))
              case atStart => exact ⟨0, rfl, Nat.zero_le _, hw1.out, rfl⟩
              case round =>
                obtain ⟨j, rfl, hj, hw2, hg2⟩ := hrel
                by_cases hlj : j < n
                · have hljI : (j : Int) < (n : Int) ∧ (0 : Int) ≤ j ∧ 0 ≤ j := by omega
                  have HIJ := Lib.hid (⟨hlt, hlj⟩ : _ ∧ _)
                  go_upto_region 14 with fail
                  go_cut [107] (fun v107 wx => v107 = .bool false ∧ OrdR w wx B n A f AL L)
                  case first =>
                    as_aux_lemma =>
                      obtain ⟨hbw, hsz, RF, RG⟩ := hw2.out
                      obtain ⟨x, hx⟩ : ∃ x, ix f i = x := ⟨_, rfl⟩
                      obtain ⟨y, hy⟩ : ∃ y, ix f j = y := ⟨_, rfl⟩
                      obtain ⟨a, ha⟩ : ∃ a, ix L i = a := ⟨_, rfl⟩
                      obtain ⟨b, hb⟩ : ∃ b, ix L j = b := ⟨_, rfl⟩
                      have HO := Lib.hid (HMO.out i j (by rw [← HNF.out]; exact hlt) (by rw [← HNF.out]; exact hlj))
                      rw [hx, hy, ha, hb] at HO
                      have hO : y < x → 0 < y → ¬ b < a := fun h1 h2 => by have := HO.out h1 h2; omega
                      have HR4 := Lib.hid (show OrdR w wr B n A f AL L from ⟨hbw, hsz, RF, RG⟩)
                      obtain ⟨ad, e1, hd1, hcx⟩ := RF.at_ hlt
                      obtain ⟨ad', e2, hd2, hcy⟩ := RF.at_ hlj
                      obtain ⟨al, e3, hd3, hca⟩ := RG.at_ hlt
                      obtain ⟨al', e4, hd4, hcb⟩ := RG.at_ hlj
                      subst e1 e3
                      cases e2
                      cases e4
                      rw [hx] at hcx
                      rw [hy] at hcy
                      rw [ha] at hca
                      rw [hb] at hcb
                      clear HO hx hy ha hb RF RG HMO HW hw1 hw2 hg hg2 hi hj
                      by_cases g1 : y < x
                      · by_cases g2 : 0 < y
                        · have g3 : decide (b < a) = false := decide_eq_false (hO g1 g2)
                          clear hO
                          go_wp2_with fail
                          go_quiet (fail)
                          have HR5 := HR4.out.drewN nq
                          go_wp2_with fail
                          go_meet
                          exact ⟨rfl, HR5⟩
                        · clear hO
                          have g3 : decide (0 < y) = false := decide_eq_false g2
                          go_wp2_with fail
                          go_quiet (fail)
                          have HR5 := HR4.out.drewN nq
                          go_wp2_with fail
                          go_meet
                          exact ⟨rfl, HR5⟩
                      · clear hO
                        have g3 : decide (y < x) = false := decide_eq_false g1
                        go_wp2_with fail
                        go_quiet (fail)
                        have HR5 := HR4.out.drewN nq
                        go_wp2_with fail
                        go_meet
                        exact ⟨rfl, HR5⟩
                  case rest =>
                    obtain ⟨rfl, hw3⟩ := hcut
                    have HW3 := Lib.hid hw3
                    clear hw3
                    go_wp2_with fail
                    go_roundg (n - (j + 1))
                    case measure => have := hg2.out; omega
                    case rel => exact ⟨j + 1, by go_num, hlj, HW3.out, rfl⟩
                · obtain rfl : j = n := by omega
                  have hljI : ¬ (j : Int) < (j : Int) := by omega
                  go_wp2_with fail
                  go_roundg (j - (i + 1))
                  case measure => have := hg.out; omega
                  case rel => exact ⟨i + 1, by go_num, hlt, hw2.out, rfl⟩
            · obtain rfl : i = n := by omega
              have hltI : ¬ (i : Int) < (i : Int) := by omega
              clear hlt
              obtain ⟨k, hk⟩ : ∃ k : Nat, turn % (i : Int) = (k : Int) := ⟨(turn % (i : Int)).toNat, by have := Int.emod_nonneg turn (show (i : Int) ≠ 0 by omega); omega⟩
              have hki : k < i := by have := Int.emod_lt_of_pos turn (show (0 : Int) < i by omega); omega
              have HK := Lib.hid hk
              have htb := HTU.out
              have hi0 : ¬ (i : Int) = 0 := by omega
              have hi0' : ((i : Int) == 0) = false := by simpa using hi0
              clear hk
              go_upto_region 16 with fail
              go_cut [14] (fun v wx => v = .int .i64 (k : Nat) ∧ wx = wr)
              case first =>
                as_aux_lemma =>
                  go_wp2_with fail
                  all_goals go_meet
                  all_goals exact ⟨by rw [HK.out], rfl⟩
              case rest =>
                obtain ⟨rfl, hwr⟩ := hcut
                obtain rfl := hwr.symm
                have hkI : (k : Int) < (i : Int) ∧ (0 : Int) ≤ k := by omega
                go_upto_region 17 with fail
                go_cut [15] (fun v wx => ∃ A2 c2, v = .slice A2 i c2 ∧ OwnI .i64 wx w.heap.size 3 A2 i c2 (rotI k f) ∧ OrdR w wx B i A f AL L)
                case first =>
                  as_aux_lemma =>
                    obtain ⟨i0, hi9, hz0, hz1, hz2⟩ := info_parts lint_info
                    obtain ⟨hbw, hsz, RF, RG⟩ := hw1.out
                    have hs1 := run_slice_from (P := Try.prog) 22 3 Try.underlying22 hi9 hz1 A i c (j := k) (by omega)
                    have hs2 := run_slice_to (P := Try.prog) 22 3 Try.underlying22 hi9 hz1 A i c (j := k) (by omega)
                    have hr1 : RdI .i64 wr B (cutA A c k) (i - k) (f.drop k) := RF.cutA (by omega) lc0
                    have hr2 : RdI .i64 wr B A k (f.take k) := RF.pre (by omega)
                    obtain ⟨J, hJ⟩ : ∃ J, i - k = J := ⟨_, rfl⟩
                    rw [hJ] at hs1 hr1
                    have hJk : J + k = i := by omega
                    have HJK := Lib.hid hJk
                    have hJb : J ≤ 288 ∧ k ≤ 288 := by omega
                    have Hi := Lib.hid hi9
                    have Hz0 := Lib.hid hz0
                    have Hz1 := Lib.hid hz1
                    have Hz2 := Lib.hid hz2
                    have HBW := Lib.hid hbw
                    have HSZ := Lib.hid hsz
                    have HRF := Lib.hid (⟨RF, RG⟩ : _ ∧ _)
                    have hwb : w.heap.size ≤ wr.heap.size := hbw.size
                    clear hi9 hz0 hz1 hz2 hJ hJk RG RF hw1 hbw hsz
                    go_wp2_with fail
                    go_region_law
                      (first
                        | ((refine step_app .i64 w.heap.size 3 i0 8 rfl (.tmp 113) (.tmp 116) _ rfl Try.underlying22 Hi.out Hz0.out Hz1.out Hz2.out rfl (OwnI.lit rfl [] _ hwb (by simp)) rfl (hr1.alloc HSZ.out (.cells #[] 3)) (by first | omega | (simp; omega)) (by omega) (Nat.le_trans hwb (by simp)) ?_)
                           intro A5 c5 w5 hown5 hg5 hat5
                           rw [List.nil_append, Nat.zero_add] at hown5
                           have hb5 : Below wr.heap.size wr w5 := ((Below.refl _ wr).alloc (Nat.le_refl _) (.cells #[] 3)).drew.grown hg5 (by simp) (by simp [blkOf])
                           have hr5 : RdI .i64 w5 B A k (f.take k) := hr2.keep fun p hp => hb5.cell (by have := HSZ.out; omega)
                           have hs5 : w.heap.size ≤ w5.heap.size := Nat.le_trans hwb hb5.size)
                        | (have _g := hs5; (refine step_app .i64 w.heap.size 3 i0 8 rfl (.tmp 117) (.tmp 120) _ rfl Try.underlying22 Hi.out Hz0.out Hz1.out Hz2.out rfl hown5 rfl hr5 (by first | omega | (simp; omega)) (by omega) hs5 ?_)
                           intro A6 c6 w6 hown6 hg6 hat6))
                    all_goals
                      have hA5 : ∀ q, blkOf A5 = some q → wr.heap.size ≤ q := fun q hq => by
                        rcases hat5 with e | e
                        · rw [e] at hq; simp [blkOf] at hq; omega
                        · rw [e] at hq; simp at hq; omega
                      have hb6 : Below wr.heap.size wr w6 := hb5.grown hg6 hb5.size hA5
                      have HO6 := Lib.hid (show OwnI .i64 w6 w.heap.size 3 A6 i c6 (rotI k f) from by have h := hown6; rw [HJK.out] at h; exact h)
                      have HR6 : Hid (OrdR w w6 B i A f AL L) := ⟨HBW.out.trans (hb6.mono hwb), Nat.le_trans HSZ.out hb6.size, HRF.out.1.keep fun p hp => hb6.cell (by have := HSZ.out; omega), HRF.out.2.keep fun p hp => hb6.cell (by have := HSZ.out; omega)⟩
                      clear hown5 hg5 hat5 hb5 hr5 hs5 hown6 hg6 hat6 hb6 hA5
                      go_wp2_with fail
                      go_meet
                      exact ⟨A6, c6, by rw [HJK.out], HO6.out, HR6.out⟩
                case rest =>
                  obtain ⟨A2, c2, rfl, ho2, hw4⟩ := hcut
                  have HW4 := Lib.hid hw4
                  clear hw4
                  have Rx := ho2.rd
                  go_wp2_with fail
                  refine (lengths_any _ _ _ _ (rotI k f) Rx m (by omega)).mono ?_
                  rintro e w5 ⟨AL5, cL5, L5, rfl, hb5, ho5, -, hR5⟩
                  have hR5 := hR5 (by rw [rot_may]; exact HMV.out.1)
                  rw [rot_may, HMV.out.1]
                  have hLn5 : L5.length = i := by rw [hR5.1, rot_length]; exact HNF.out.symm
                  rw [hLn5] at ho5 ⊢
                  have heq := LenRes.rot (k := k) (by rw [← HNF.out]; omega) HR.out (by simpa using hR5) HMV.out.1
                  rw [← HNF.out] at heq
                  have HEQ := Lib.hid heq
                  clear heq hR5 hLn5
                  have R5 := ho5.rd
                  have Rx5 := (Rx.below hb5).more hb5.size
                  obtain ⟨hbw4, hsz4, RF4, RG4⟩ := HW4.out
                  have RF5 := ((RF4.more hsz4).below hb5).more hb5.size
                  have RG5 := ((RG4.more hsz4).below hb5).more hb5.size
                  have hbw5 := hbw4.trans (hb5.mono hbw4.size)
                  clear RF4 RG4 hsz4 Rx ho5 ho2
                  go_wp2_with fail
                  refine (cost_any _ _ _ _ _ _ _ _ _ _ R5 Rx5 (by omega) (by omega)).mono ?_
                  rintro e w6 ⟨rfl, q1, rfl⟩
                  rw [Nat.min_self]
                  go_wp2_with fail
                  refine (cost_any _ _ _ _ _ _ _ _ _ _ (RG5.drewN _) (RF5.drewN _) (by omega) (by omega)).mono ?_
                  rintro e w6 ⟨rfl, q2, rfl⟩
                  rw [Nat.min_self, HEQ.out]
                  obtain ⟨K2, hK2⟩ : ∃ K, K = costTo L f i := ⟨_, rfl⟩
                  rw [← hK2]
                  clear hK2
                  go_wp2_with fail
                  go_ret
                  exact ⟨by simp, ⟨hbw5.os, hbw5.tape, hbw5.output, hbw5.size, hbw5.block⟩⟩
end Go.Proofs.Ytbllgifmidnkhaa
