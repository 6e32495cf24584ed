/-
  The walk of the statement InflateCut.
-/
import Derived.Test.YtoegpffdbfkcpaaAns12
import Derived.Test.YtoegpffdbfkcpaaOpenC
import Derived.Test.YtoegpffdbfkcpaaICutP
import Derived.Test.YtoegpffdbfkcpaaRfF
namespace Go.Proofs.Ytoegpffdbfkcpaa
open Go.RowKit
set_option linter.unusedVariables false
theorem Own.cap {w : World} {b0 : Nat} {e : TypeId} {sz n c : Nat} {A : Option Addr} {f : Nat → Value} (h : Own w b0 e sz A n c f) : n ≤ c ∧ c ≤ maxLen := by
  rcases h with ⟨_, h1, h2⟩ | ⟨_, _, _, _, _, h1, h2, _⟩
  · subst h1; subst h2; exact ⟨Nat.le_refl _, Nat.zero_le _⟩
  · exact ⟨h1, h2⟩
set_option maxRecDepth 100000 in
set_option maxHeartbeats 1600000 in
theorem icut_law (A : Option Addr) (n c : Nat) (b : List Int) (N : Int) (w : World) (T : InC .u8 w A n c b) (hN : (Lit.int .u16 N).wf = true) :
    Calls Try.prog 3 #[.slice A n c, .int .u16 N] w fun e w' => e = .returned (.bool true) ∧ Below w.heap.size w w' := by
  obtain ⟨hr, hmx, hwf, hcap, hcm⟩ := T
  obtain ⟨i0, hi, hz0, hz1, hz2⟩ := info_parts rbyte_info
  have hN' : 0 ≤ N ∧ N < 65536 := bounds_u16 hN
  have hby : ∀ x ∈ b, 0 ≤ x ∧ x < 256 := fun x hx => bounds_u8 (hwf x hx)
  have hnb := hr.1
  have HBY := Lib.hid hby
  clear hN hwf hby
  by_cases hbig : 3000 < n ∨ n = 0
  · have HA := Lib.hid (answers12_any w)
    have hc : (3000 : Int) < n ∨ (n : Int) = 0 := by omega
    clear hr hnb HBY hi hz0 hz1 hz2 hmx hcap hcm hbig
    rcases hc with hc | hc
    all_goals
      go_enter Try.func3, Try.ntmps3
      go_wp2_with fail
      refine HA.out.mono ?_
      rintro e wa ⟨rfl, hba⟩
      go_wp2_with fail
      go_ret
      exact ⟨rfl, hba⟩
  · have hn1 : ¬ (3000 : Int) < n := by omega
    have hn2 : ¬ (n : Int) = 0 := by omega
    have hlen : b.length ≤ 3000 := by omega
    obtain ⟨F, hF⟩ : ∃ F, (start (bts b) 1048576).fin = F := ⟨_, rfl⟩
    have HI := Lib.hid (rinflate_any w _ A n c b hr (Nat.le_refl _) HBY.out (by omega) 1048576 1048576 (by decide) (by decide) F hF)
    have HF := Lib.hid hF
    have HR := Lib.hid hr
    have HNB := Lib.hid hnb
    have HLEN := Lib.hid hlen
    have hsl := fun j (hj : j ≤ c) => run_slice_to (P := Try.prog) 22 5 Try.underlying22 hi hz1 A n c hj
    have hsl2 := fun (A : Option Addr) (n c : Nat) j (hj : j ≤ c) => run_slice_to (P := Try.prog) 22 5 Try.underlying22 hi hz1 A n c hj
    have HSL := Lib.hid hsl
    have HSL2 := Lib.hid hsl2
    clear hF hr hnb hlen hbig hsl hsl2 hi hz0 hz1 hz2
    go_enter Try.func3, Try.ntmps3
    go_wp2_with fail
    refine HI.out.mono ?_
    rintro e w1 ⟨g, cc, R, rfl, hM, hb1, hE, hout, hkd, hst, htk, hrest⟩
    obtain ⟨k0, k1, k2, -⟩ := hM.refl.cells
    have HM := Lib.hid hM
    have HOUT := Lib.hid hout
    clear hM hkd hst htk hout HI
    by_cases h8 : F.2 = 8
    · have hE0 : R.E = 0 := by rw [hE]; unfold endE; rw [if_pos h8]
      have hre := hrest h8
      rw [hE0] at k1
      obtain ⟨r, hrr⟩ : ∃ r, b.length - F.1.x.length / 8 = r := ⟨_, rfl⟩
      rw [hrr] at hre
      rw [hre] at k2
      have hr1 : 1 ≤ r := by rw [← hrr, ← HF.out]; exact rest_pos (by rw [HF.out]; exact h8)
      obtain ⟨k, hk⟩ : ∃ k : Nat, (k : Int) = N % (r : Int) := ⟨(N % (r : Int)).toNat, by rw [Int.toNat_of_nonneg (Int.emod_nonneg _ (by omega))]⟩
      have hkr : (k : Int) < r := by rw [hk]; exact Int.emod_lt_of_pos _ (by omega)
      have hkb : k ≤ n := by have := HNB.out; omega
      have hcut := Lib.hid (cut_law (b := b) (M := 1048576) (k := k) (by rw [HF.out]; exact h8) (by rw [HF.out, hrr]; omega))
      have hr0 : (0 : Int) < r := by omega
      have hslk := HSL.out k (by omega)
      have HRR := Lib.hid hrr
      have HKB := Lib.hid hkb
      have HKR := Lib.hid hkr
      have hk2 := hk.symm
      have HK := Lib.hid hk
      clear hrr hE hrest hre hE0 hr1 HSL hkr hkb hk
      go_wp2_with fail
      obtain ⟨G, hG⟩ : ∃ G, (start (bts (b.take k)) 1048576).fin = G := ⟨_, rfl⟩
      have HG := Lib.hid hG
      have hw := whole_any w1 w.heap.size A k c (b.take k) ((HR.out.below hb1).pre HKB.out) hb1.size (fun x hx => HBY.out x (List.mem_of_mem_take hx)) (by rw [List.length_take]; have := HLEN.out; omega) 1048576 1048576 (by decide) (by decide) G hG
      refine hw.mono ?_
      rintro e w2 ⟨A1, n1, cp1, A2, n2, c2, R2, rfl, ho, hr2, -, -, hby2, hb2⟩
      clear hw hG
      obtain ⟨hG5, l, hFG⟩ := hcut.out
      rw [HF.out] at hFG
      rw [HG.out] at hG5 hFG
      have hE5 : endE G = 5 := by unfold endE; rw [if_neg (by omega), hG5]
      rw [hE5]
      have hFl : F.1.all.length ≤ 1048576 := by
        obtain ⟨b', h1, h2⟩ := IS.fin_out (start (bts b) 1048576)
        rw [HF.out] at h1 h2
        have e1 : (start (bts b) 1048576).all = [] := rfl
        have e2 : (start (bts b) 1048576).rem = 1048576 := rfl
        rw [h1, e1, List.nil_append]
        omega
      have hn1 : n1 = G.1.all.length := ho.1
      have hno : R.no = F.1.all.length := HM.out.out.1.trans (congrArg List.length HOUT.out)
      have hnn : n1 ≤ R.no := by rw [hno, hFG, List.length_append]; omega
      have hnc : R.no ≤ R.co := HM.out.out.2.capLe
      have hns : n1 ≤ R.co := by omega
      have hnI : (n1 : Int) ≤ (R.no : Int) := by omega
      have hsl3 := HSL2.out R.Ao R.no R.co n1 hns
      have heq : G.1.all = R.out.take n1 := by rw [HOUT.out, hFG, hn1, List.take_left]
      have HEQ := Lib.hid heq
      have hnb1 : (n1 : Int) ≤ 1000000000 := by omega
      clear hby2 hr2 hG5 hFG hE5 hFl hn1 hno hnn hnc hns heq HG hcut
      go_wp2_with fail
      refine (answers12_any _).mono ?_
      rintro e wa ⟨rfl, hba⟩
      have hM2 := (HM.out.keeps hb2).keeps hba
      have k0 := hM2.cell.cell (i := 0) (by omega)
      rw [show sF R 0 = .slice R.Ao R.no R.co from rfl] at k0
      have hs1 := (ho.keeps hba).rd
      have hs2 := hM2.out.rd.pre (j := n1) (by omega)
      have hbw := (hb1.trans (hb2.mono hb1.size)).trans (hba.mono (hb1.trans (hb2.mono hb1.size)).size)
      clear ho hM2
      go_wp2_with fail
      refine (same_any wa _ _ _ _ _ _ _ _ _ hs1 hs2 hnb1 HEQ.out).mono ?_
      rintro e w3 ⟨rfl, q, rfl⟩
      go_wp2_with fail
      go_ret
      exact ⟨rfl, below_drewn hbw q⟩
    · have hE0 : R.E ≠ 0 := by
        have h0 : F.2 ≠ 0 := by rw [← HF.out]; exact IS.fin_ne _
        rw [hE]; unfold endE; rw [if_neg h8]; exact h0
      clear hrest hE
      go_wp2_with fail
      refine (answers12_any _).mono ?_
      rintro e wa ⟨rfl, hba⟩
      go_wp2_with fail
      go_ret
      exact ⟨rfl, hb1.trans (hba.mono hb1.size)⟩
end Go.Proofs.Ytoegpffdbfkcpaa
