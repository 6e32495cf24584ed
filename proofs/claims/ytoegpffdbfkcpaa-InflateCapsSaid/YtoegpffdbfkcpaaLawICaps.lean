/-
  The walk of the statement InflateCaps.
-/
import Derived.Test.YtoegpffdbfkcpaaAns12
import Derived.Test.YtoegpffdbfkcpaaOpenC
import Derived.Test.YtoegpffdbfkcpaaICutP
import Derived.Test.YtoegpffdbfkcpaaRfF
namespace Go.Proofs.Ytoegpffdbfkcpaa
open Go.RowKit
set_option linter.unusedVariables false
set_option maxRecDepth 100000 in
set_option maxHeartbeats 1600000 in
theorem icaps_law (A : Option Addr) (n c : Nat) (b : List Int) (N : Int) (w : World) (T : InC .u8 w A n c b) (hN : (Lit.int .u16 N).wf = true) :
    Calls Try.prog 4 #[.slice A n c, .int .u16 N] w fun e w' => e = .returned (.bool true) ∧ Below w.heap.size w w' := by
  obtain ⟨hr, hmx, hwf, hcap, hcm⟩ := T
  obtain ⟨i0, hi, hz0, hz1, hz2⟩ := info_parts rbyte_info
  have hN' : 0 ≤ N ∧ N < 65536 := bounds_u16 hN
  have hby : ∀ x ∈ b, 0 ≤ x ∧ x < 256 := fun x hx => bounds_u8 (hwf x hx)
  have hnb := hr.1
  have HBY := Lib.hid hby
  clear hN hwf hby
  by_cases hbig : 3000 < n
  · have HA := Lib.hid (answers12_any w)
    have hc : (3000 : Int) < n := by omega
    clear hr hnb HBY hi hz0 hz1 hz2 hmx hcap hcm hbig
    go_enter Try.func4, Try.ntmps4
    go_wp2_with fail
    refine HA.out.mono ?_
    rintro e wa ⟨rfl, hba⟩
    go_wp2_with fail
    go_ret
    exact ⟨rfl, hba⟩
  · have hn1 : ¬ (3000 : Int) < n := by omega
    have hlen : b.length ≤ 3000 := by omega
    obtain ⟨F, hF⟩ : ∃ F, (start (bts b) 1048576).fin = F := ⟨_, rfl⟩
    have HI := Lib.hid (rinflate_any w _ A n c b hr (Nat.le_refl _) HBY.out (by omega) 1048576 1048576 (by decide) (by decide) F hF)
    have hFl : F.1.all.length ≤ 1048576 := by
      obtain ⟨b', h1, h2⟩ := IS.fin_out (start (bts b) 1048576)
      rw [hF] at h1 h2
      have e1 : (start (bts b) 1048576).all = [] := rfl
      have e2 : (start (bts b) 1048576).rem = 1048576 := rfl
      rw [h1, e1, List.nil_append]
      omega
    have HF := Lib.hid hF
    have HR := Lib.hid hr
    have HNB := Lib.hid hnb
    have HLEN := Lib.hid hlen
    have hsl2 := fun (A : Option Addr) (n c : Nat) j (hj : j ≤ c) => run_slice_to (P := Try.prog) 22 5 Try.underlying22 hi hz1 A n c hj
    have HSL2 := Lib.hid hsl2
    have HW := Lib.hid (fun W m (hb : Below w.heap.size w W) hm => whole_any W w.heap.size A n c b (hr.below hb) hb.size HBY.out (by omega) (m : Nat) m (by omega) hm _ rfl)
    have HFL := Lib.hid hFl
    clear hF hr hnb hlen hbig hsl2 hi hz0 hz1 hz2 hFl
    go_enter Try.func4, Try.ntmps4
    go_wp2_with fail
    refine HI.out.mono ?_
    rintro e w1 ⟨g, cc, R, rfl, hM, hb1, hE, hout, hkd, hst, htk, hrest⟩
    obtain ⟨k0, k1, k2, -⟩ := hM.refl.cells
    have HM := Lib.hid hM
    have HOUT := Lib.hid hout
    have hno : R.no = F.1.all.length := hM.out.1.trans (congrArg List.length hout)
    have hnb : R.no ≤ 1048576 := by rw [hno]; exact HFL.out
    have HNO := Lib.hid hno
    have hnoI : ¬ (1048576 : Int) < R.no := by omega
    clear hM hkd hst htk hout HI hrest hno
    by_cases h8 : F.2 = 8
    · have hE0 : R.E = 0 := by rw [hE]; unfold endE; rw [if_pos h8]
      rw [hE0] at k1
      have hcaps := fun m => caps_law (b := b) (M := 1048576) (m := m) (by rw [HF.out]; exact h8)
      rw [HF.out] at hcaps
      have HC := Lib.hid hcaps
      by_cases h0 : R.no = 0
      · have h0I : (R.no : Int) = 0 := by omega
        clear hE hE0 hcaps HC
        go_wp2_with fail
        refine (answers12_any _).mono ?_
        rintro e wa ⟨rfl, hba⟩
        go_wp2_with fail
        go_ret
        exact ⟨rfl, hb1.trans (hba.mono hb1.size)⟩
      · have h0I : ¬ (R.no : Int) = 0 := by omega
        obtain ⟨r, hr⟩ : ∃ r, R.no = r := ⟨_, rfl⟩
        have hk0 := k0
        rw [hr] at k0 hnb hnoI h0I h0
        obtain ⟨k, hk⟩ : ∃ k : Nat, (k : Int) = N % (r : Int) := ⟨(N % (r : Int)).toNat, by rw [Int.toNat_of_nonneg (Int.emod_nonneg _ (by omega))]⟩
        have hkr : (k : Int) < r := by rw [hk]; exact Int.emod_lt_of_pos _ (by omega)
        have hk2 := hk.symm
        have HK := Lib.hid hk
        have HR1 := Lib.hid hr
        have hr0 : (0 : Int) < r := by omega
        clear hE hE0 hcaps hk hr hk0
        go_wp2_with fail
        have hkn : k < F.1.all.length := by rw [← HNO.out, HR1.out]; omega
        have hrn : r = F.1.all.length := by rw [← HNO.out, HR1.out]
        obtain ⟨g6, gall6⟩ := (HC.out k).1 hkn
        obtain ⟨g8, gall8⟩ := (HC.out r).2 hrn
        have e6 : endE (start (bts b) k).fin = 6 := by unfold endE; rw [if_neg (by omega), g6]
        have e8 : endE (start (bts b) r).fin = 0 := by unfold endE; rw [if_pos g8]
        have hrc : r ≤ R.co := by have := HM.out.out.2.capLe; have := HR1.out; omega
        have hsl3 := HSL2.out R.Ao r R.co k (by omega)
        have H6 := Lib.hid (⟨e6, gall6⟩ : _ ∧ _)
        have H8 := Lib.hid (⟨e8, gall8⟩ : _ ∧ _)
        have hkb : k ≤ 1000000000 := by omega
        have hrb : r ≤ 1000000000 := by omega
        have HKN := Lib.hid hkn
        have HRN := Lib.hid hrn
        have HKB := Lib.hid (⟨hkb, hrb⟩ : _ ∧ _)
        clear hkn hrn g6 gall6 g8 gall8 e6 e8 hkb hrb hrc k0 k1 k2 HC
        refine (HW.out w1 k hb1 HKB.out.1).mono ?_
        rintro e w2 ⟨A1, n1, cp1, A2, n2, c2, R2, rfl, ho, hr2, -, -, hby2, hb2⟩
        rw [H6.out.1]
        have hb12 := hb1.trans (hb2.mono hb1.size)
        have hM2 := HM.out.keeps hb2
        have k0 := hM2.cell.cell (i := 0) (by omega)
        rw [show sF R 0 = .slice R.Ao R.no R.co from rfl, HR1.out] at k0
        clear hr2 hby2
        go_wp2_with fail
        refine (HW.out w2 r hb12 HKB.out.2).mono ?_
        rintro e w3 ⟨B1, m1, cq1, B2, m2, d2, R3, rfl, ho3, hr3, -, -, hby3, hb3⟩
        rw [H8.out.1]
        clear hr3 hby3 k0
        go_wp2_with fail
        refine (answers12_any _).mono ?_
        rintro e wa ⟨rfl, hba⟩
        have hM4 := (hM2.keeps hb3).keeps hba
        have k0 := hM4.cell.cell (i := 0) (by omega)
        rw [show sF R 0 = .slice R.Ao R.no R.co from rfl, HR1.out] at k0
        have hs1 := ((ho.keeps hb3).keeps hba).rd
        have hs2 := hM4.out.rd
        rw [HR1.out, HOUT.out] at hs2
        have hs3 := hs2.pre (j := k) (by have := HKN.out; have := HRN.out; omega)
        have hs4 := (ho3.keeps hba).rd
        have hb13 := hb12.trans (hb3.mono hb12.size)
        have hb14 := hb13.trans (hba.mono hb13.size)
        have hn1 : (n1 : Int) ≤ 1000000000 := by
          have h1 : n1 = (start (bts b) k).fin.1.all.length := ho.1
          rw [H6.out.2, List.length_take] at h1
          have := HFL.out; omega
        have hm1 : (m1 : Int) ≤ 1000000000 := by
          have h1 : m1 = (start (bts b) r).fin.1.all.length := ho3.1
          rw [H8.out.2] at h1
          have := HFL.out; omega
        clear ho ho3 hM2 hM4 hba hb2 hb3 hb12 hb13
        go_wp2_with fail
        refine (same_any wa _ _ _ _ _ _ _ _ _ hs1 hs3 hn1 H6.out.2).mono ?_
        rintro e w4 ⟨rfl, q, rfl⟩
        go_wp2_with fail
        refine (same_any _ _ _ _ _ _ _ _ _ _ (hs4.drewN q) (hs2.drewN q) hm1 H8.out.2).mono ?_
        rintro e w5 ⟨rfl, q2, rfl⟩
        go_wp2_with fail
        go_ret
        exact ⟨rfl, below_drewn hb14 (q + q2)⟩
    · have hE0 : R.E ≠ 0 := by
        have h0 : F.2 ≠ 0 := by rw [← HF.out]; exact IS.fin_ne _
        rw [hE]; unfold endE; rw [if_neg h8]; exact h0
      clear hE
      go_wp2_with fail
      refine (answers12_any _).mono ?_
      rintro e wa ⟨rfl, hba⟩
      go_wp2_with fail
      go_ret
      exact ⟨rfl, hb1.trans (hba.mono hb1.size)⟩
end Go.Proofs.Ytoegpffdbfkcpaa
