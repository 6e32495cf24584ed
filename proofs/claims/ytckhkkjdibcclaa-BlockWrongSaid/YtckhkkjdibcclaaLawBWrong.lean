/-
  The walk of the law BlockWrong.
-/
import Derived.Test.YtckhkkjdibcclaaBkC
import Derived.Test.YtckhkkjdibcclaaRExp
namespace Go.Proofs.Ytckhkkjdibcclaa
open Go.RowKit
set_option linter.unusedVariables false
/-- is one of the tokens unsound? -/
def badT (toks : List Tok) : Bool := ! toks.all fun t => decide (soundT t)
def BwR (w : World) (toks : List Tok) (n : Nat) (gk : Nat) (v7 v8 : Value) (wx : World) : Prop :=
  ∃ (k : Nat) (b : Bool), v7 = .bool b ∧ v8 = .int .i64 k ∧ k ≤ n ∧ Hid (b = badT (toks.take k)) ∧ Hid (Below w.heap.size w wx) ∧ Hid (gk = n - k)
theorem badT_next {toks : List Tok} {k : Nat} (hk : k < toks.length) {L N D : Int} (ht : tokAt toks k = ⟨L, N, D⟩) : badT (toks.take (k + 1)) = (badT (toks.take k) || ! soundB L N D) := by
  unfold badT
  rw [tok_take hk, List.all_append, ht, soundB_iff]
  simp [Bool.not_and]
theorem badT_may {toks : List Tok} (h : badT toks = true) {k : Int} (hk : k ≠ 0) (m : Nat) : bkMay k toks m = false := by
  unfold bkMay
  rw [if_neg hk]
  split
  · rfl
  · unfold badT at h; simpa using h
set_option maxRecDepth 100000 in
set_option maxHeartbeats 4000000 in
theorem bwrong_law (kind : Int) (At : Option Addr) (nt ct : Nat) (toks : List Tok) (q : Int) (w : World) (hkind : (Lit.int .i64 kind).wf = true) (hTT : RdT w w.heap.size At nt toks ∧ nt ≤ maxLen) (hq : (Lit.int .u32 q).wf = true) :
    Calls Try.prog 6 #[.int .i64 kind, .slice At nt ct, .int .u32 q] w fun e w' => e = .returned (.bool true) ∧ Below w.heap.size w w' := by
  obtain ⟨hT, hnt⟩ := hTT
  have hqb := bounds_u32 hq
  have hnI : (nt : Int) ≤ 9223372036854775807 ∧ (0 : Int) ≤ nt := by unfold maxLen at hnt; omega
  by_cases hbig : 400 < nt
  · have hbigI : (400 : Int) < (nt : Int) := by omega
    clear hT hnt hq hkind
    go_enter Try.func6, Try.ntmps6
    go_wp2_with fail
    refine (answers10_any w).mono ?_
    rintro e w1 ⟨rfl, hb⟩
    go_wp2_with fail
    go_ret
    exact ⟨rfl, hb⟩
  · have hbigI : ¬ (400 : Int) < (nt : Int) := by omega
    have hn400 : nt ≤ 400 := by omega
    obtain ⟨i0, hi, hz0, hz1, hz2⟩ := info_parts bbyte_info
    obtain ⟨m, hm⟩ : ∃ m : Nat, 65530 + q % 10 = (m : Int) := ⟨(65530 + q % 10).toNat, by omega⟩
    have hmb : (65530 : Int) ≤ m ∧ (m : Int) ≤ 65539 := by omega
    have hmk : ∀ W, (Instr.makeSlice 36 (.int .i64 (m : Int)) (.int .i64 (m : Int))).run Try.prog W = .ok (.slice (some ⟨W.heap.size, 0, none⟩) m m) (W.alloc (.cells (zrow m (.int .u8 0)) 5)) := fun W => run_make_zrow (P := Try.prog) 36 5 i0 (.int .u8 0) Try.underlying36 hi hz0 hz1 rfl .i64 .i64 m (by rw [hz2]; omega) (by omega) W
    have HT := Lib.hid hT
    have HM := Lib.hid hm
    have HN := Lib.hid hn400
    clear hT hnt hq hkind hi hz0 hz1 hz2 hm hbig hn400
    go_enter Try.func6, Try.ntmps6
    go_wp2_with fail
    go_loopg [7, 8] nt (BwR w toks nt)
    case atStart => exact ⟨0, false, rfl, rfl, Nat.zero_le _, rfl, Below.refl _ _, rfl⟩
    case round =>
      obtain ⟨k, b, rfl, rfl, hk, hbd, hb, hg⟩ := hrel
      by_cases hlt : k < nt
      · have hkI : (k : Int) < (nt : Int) ∧ (0 : Int) ≤ (k : Int) := by omega
        obtain ⟨ad, hA, hbl, hcs⟩ := (HT.out.below hb.out).2 (by omega)
        obtain ⟨a0, a1, a2⟩ := hcs k hlt
        rw [addr_next _ _ _ (by omega)] at a1 a2
        obtain ⟨⟨T0, N, D⟩, ht⟩ : ∃ t : Tok, tokAt toks k = t := ⟨_, rfl⟩
        rw [ht] at a0 a1 a2
        replace a0 : wr.cell? (ad.add (k * 3)) = some (.int .u8 T0) := a0
        replace a1 : wr.cell? { block := (ad.add (k * 3)).block, off := (ad.add (k * 3)).off + 1 } = some (.int .i64 N) := a1
        replace a2 : wr.cell? { block := (ad.add (k * 3)).block, off := (ad.add (k * 3)).off + 2 } = some (.int .i64 D) := a2
        have hnx := badT_next (by rw [← HT.out.1]; exact hlt) ht
        rw [← hbd.out] at hnx
        have HNX := Lib.hid hnx
        have HLT := Lib.hid hlt
        subst hA
        clear hbl hcs ht hnx hlt
        cases b with
        | true =>
          go_wp2_with fail
          go_roundg (nt - (k + 1))
          case measure => have := hg.out; have := HLT.out; omega
          case rel => exact ⟨k + 1, true, rfl, by go_num, HLT.out, by show true = _; rw [HNX.out]; rfl, hb, rfl⟩
        | false =>
          obtain ⟨sb, hsb⟩ : ∃ sb, soundB T0 N D = sb := ⟨_, rfl⟩
          have HSB := Lib.hid hsb
          have HSO := Lib.hid (rsound_any T0 N D wr)
          rw [hsb] at HSO
          clear hsb
          go_wp2_with fail
          refine HSO.out.mono ?_
          rintro e w5 ⟨rfl, hb5⟩
          have hb6 := Lib.hid (hb.out.trans (hb5.mono hb.out.size))
          clear hb5
          go_wp2_with fail
          go_roundg (nt - (k + 1))
          case measure => have := hg.out; have := HLT.out; omega
          case rel => exact ⟨k + 1, !sb, by first | rfl | (cases sb <;> rfl), by go_num, HLT.out, by show (!sb) = _; rw [HNX.out, HSB.out]; rfl, hb6, rfl⟩
      · obtain rfl : k = nt := by omega
        have hkI : ¬ (k : Int) < (k : Int) := by omega
        rw [List.take_of_length_le (by rw [← HT.out.1]; exact Nat.le_refl _)] at hbd
        have hmE := HM.out
        have HBD := Lib.hid (show b = badT toks from hbd.out)
        clear hbd hlt hg
        go_wp2_with fail
        refine (wtrNew_any wr).mono ?_
        rintro e w1 ⟨g, rfl, hw1, hb1⟩
        have hba : Below w1.heap.size w1 (w1.alloc (.cells (zrow m (.int .u8 0)) 5)) := (Below.refl _ w1).alloc (Nat.le_refl _) _
        have hw2 := hw1.keeps hba
        have hb2 := (hb.out.trans (hb1.mono hb.out.size))
        have hb3 := hb2.trans (hba.mono hb2.size)
        have HW := Lib.hid (⟨hw2, hb3⟩ : _ ∧ _)
        clear hw1 hb1 hba hw2 hb2 hb3
        go_upto_region 9 with fail
        go_cut [10] (fun v wx => ∃ A, v = .slice A m m ∧ Wtr wx wr.heap.size g none 0 0 [] ∧ Below w.heap.size w wx)
        case first =>
          go_wp2_with fail
          go_meet
          exact ⟨_, rfl, HW.out.1, HW.out.2⟩
        case rest =>
          obtain ⟨Ar, rfl, hw2, hb2⟩ := hcut
          have HW2 := Lib.hid (⟨hw2, hb2⟩ : _ ∧ _)
          clear HW hw2 hb2 hb hmk HM hmE
          have HA := Lib.hid (answers10_any wc)
          have hnt4 : Hid ((k : Int) ≤ 4611686018427387904) := by show _ ≤ _; have := HN.out; omega
          -- what is known at a later world
          have HL := Lib.hid (fun (W : World) (hB : Below wc.heap.size wc W) => (⟨(HT.out.below (HW2.out.2.trans (hB.mono HW2.out.2.size))).more (HW2.out.2.trans (hB.mono HW2.out.2.size)).size, HW2.out.1.keeps hB, HW2.out.2.trans (hB.mono HW2.out.2.size)⟩ : RdT W W.heap.size At k toks ∧ Wtr W wr.heap.size g none 0 0 [] ∧ Below w.heap.size w W))
          by_cases hbad : kind < 0 ∨ 2 < kind ∨ (b = true ∧ 0 < kind)
          · have hmay : bkMay kind toks m = false := by
              rcases hbad with h | h | ⟨h, h'⟩
              · unfold bkMay; rw [if_neg (by omega), if_pos (.inl (by omega))]
              · unfold bkMay; rw [if_neg (by omega), if_pos (.inl (by omega))]
              · exact badT_may (by rw [← HBD.out]; exact h) (by omega) m
            have HMAY := Lib.hid hmay
            have hcs : (kind < 0) ∨ (¬ kind < 0 ∧ 2 < kind) ∨ (¬ kind < 0 ∧ ¬ 2 < kind ∧ b = true ∧ 0 < kind) := by
              rcases hbad with h | h | ⟨h, h'⟩
              · exact .inl h
              · exact .inr (.inl ⟨by omega, h⟩)
              · by_cases h2 : 2 < kind
                · exact .inr (.inl ⟨by omega, h2⟩)
                · exact .inr (.inr ⟨by omega, h2, h, h'⟩)
            clear hbad hmay
            rcases hcs with h1 | ⟨h1, h2⟩ | ⟨h1, h2, rfl, h3⟩
            all_goals
              try have h1d : decide (kind < 0) = false := decide_eq_false h1
              try have h2d : decide (2 < kind) = false := decide_eq_false h2
              go_wp2_with fail
              refine HA.out.mono ?_
              rintro e w3 ⟨rfl, hb3⟩
              have HB3 := Lib.hid hb3
              have HK := Lib.hid (wkind_no w3 g kind At k ct toks (HL.out w3 hb3).1 hnt4.out Ar m m true HMAY.out)
              clear hb3
              go_wp2_with fail
              refine HK.out.mono ?_
              rintro e w4 ⟨rfl, hb4⟩
              have hb34 := HB3.out.trans (hb4.mono HB3.out.size)
              have HB4 := Lib.hid hb34
              have HBI := Lib.hid (wtrBits_any w4 wr.heap.size g 0 0 none [] (HL.out w4 hb34).2.1 (by simp))
              clear hb4 hb34
              go_wp2_with fail
              refine HBI.out.mono ?_
              rintro e w5 ⟨rfl, q5, hw5⟩
              have hb5 : Below wc.heap.size wc w5 := by rw [hw5]; exact HB4.out.trans ((Chg.drewN (Chg.refl w4 (fun _ => False)) q5).below (fun _ h => h.elim) HB4.out.size)
              have HB5 := Lib.hid hb5
              have HCO := Lib.hid (bcost_no w5 kind At k ct toks (HL.out w5 hb5).1 hnt4.out Ar m m HMAY.out)
              clear hb5 hw5
              go_wp2_with fail
              refine HCO.out.mono ?_
              rintro e w6 ⟨rfl, hb6⟩
              have hfin := Lib.hid (HL.out w6 (HB5.out.trans (hb6.mono HB5.out.size))).2.2
              clear hb6
              go_wp2_with fail
              go_ret
              exact ⟨by simp, hfin.out⟩
          · have hk1 : ¬ kind < 0 := fun h => hbad (.inl h)
            have hk2 : ¬ 2 < kind := fun h => hbad (.inr (.inl h))
            have h1d : decide (kind < 0) = false := decide_eq_false hk1
            have h2d : decide (2 < kind) = false := decide_eq_false hk2
            have hk3 : b = true → ¬ 0 < kind := fun h h' => hbad (.inr (.inr ⟨h, h'⟩))
            clear hbad
            by_cases hm : 65535 < m
            · have hmI : (65535 : Int) < (m : Int) := by omega
              have hmd : decide ((m : Int) ≤ 65535) = false := decide_eq_false (by omega)
              have hmd2 : decide (m ≤ 65535) = false := decide_eq_false (by omega)
              have h0 : bkMay 0 toks m = false := by unfold bkMay; rw [if_pos rfl]; exact decide_eq_false (by omega)
              have H0 := Lib.hid h0
              cases b with
              | true =>
                have hk3 := hk3 rfl
                have hk3d : decide (0 < kind) = false := decide_eq_false hk3
                have hall : ∀ j : Int, bkMay j toks m = false := fun j => by
                  by_cases e : j = 0
                  · rw [e]; exact h0
                  · exact badT_may HBD.out.symm e m
                have HALL := Lib.hid hall
                clear hall h0
                go_wp2_with fail
                refine HA.out.mono ?_
                rintro e w3 ⟨rfl, hb3⟩
                have HB3 := Lib.hid hb3
                have HK := Lib.hid (bwrite_no w3 (.pointer (some ⟨g, 0, none⟩)) At k ct toks (HL.out w3 hb3).1 hnt4.out Ar m m true HALL.out)
                clear hb3
                go_wp2_with fail
                refine HK.out.mono ?_
                rintro e w4 ⟨rfl, hb4⟩
                have hb34 := HB3.out.trans (hb4.mono HB3.out.size)
                have HB4 := Lib.hid hb34
                have HBI := Lib.hid (wtrBits_any w4 wr.heap.size g 0 0 none [] (HL.out w4 hb34).2.1 (by simp))
                clear hb4 hb34
                go_wp2_with fail
                refine HBI.out.mono ?_
                rintro e w5 ⟨rfl, q5, hw5⟩
                have hb5 : Below wc.heap.size wc w5 := by rw [hw5]; exact HB4.out.trans ((Chg.drewN (Chg.refl w4 (fun _ => False)) q5).below (fun _ h => h.elim) HB4.out.size)
                have hfin := Lib.hid (HL.out w5 hb5).2.2
                clear hb5 hw5
                go_wp2_with fail
                go_ret
                exact ⟨by simp, hfin.out⟩
              | false =>
                clear hk3 h0
                go_wp2_with fail
                refine HA.out.mono ?_
                rintro e w3 ⟨rfl, hb3⟩
                have HB3 := Lib.hid hb3
                have HCO := Lib.hid (bcost_no w3 0 At k ct toks (HL.out w3 hb3).1 hnt4.out Ar m m H0.out)
                clear hb3
                go_wp2_with fail
                refine HCO.out.mono ?_
                rintro e w6 ⟨rfl, hb6⟩
                have hfin := Lib.hid (HL.out w6 (HB3.out.trans (hb6.mono HB3.out.size))).2.2
                clear hb6
                go_wp2_with fail
                go_ret
                exact ⟨by simp, hfin.out⟩
            · have hmI : ¬ (65535 : Int) < (m : Int) := by omega
              have hmd : decide ((65535 : Int) < (m : Int)) = false := decide_eq_false hmI
              have hmd2 : decide (65535 < m) = false := decide_eq_false hm
              have hmle : (m : Int) ≤ 65535 ∧ m ≤ 65535 := by omega
              have hbk : ∀ b', b = b' → (b' = true → decide (0 < kind) = false) := fun b' e h => decide_eq_false (hk3 (e.trans h))
              cases b with
              | true =>
                have hk3d : decide (0 < kind) = false := decide_eq_false (hk3 rfl)
                have hk30 := hk3 rfl
                clear hk3 hbk
                go_wp2_with fail
                refine HA.out.mono ?_
                rintro e w3 ⟨rfl, hb3⟩
                have HB3 := Lib.hid hb3
                have HCO := Lib.hid (bcost_stored w3 At k ct toks (HL.out w3 hb3).1 hnt4.out Ar m m (by omega))
                clear hb3
                go_wp2_with fail
                refine HCO.out.mono ?_
                rintro e w6 ⟨rfl, hb6⟩
                have hfin := Lib.hid (HL.out w6 (HB3.out.trans (hb6.mono HB3.out.size))).2.2
                have hpos : (0 : Int) ≤ 40 + 8 * (m : Int) := by omega
                clear hb6
                go_wp2_with fail
                go_ret
                exact ⟨by simp, hfin.out⟩
              | false =>
                clear hk3 hbk
                go_wp2_with fail
                refine HA.out.mono ?_
                rintro e w3 ⟨rfl, hb3⟩
                have HB3 := Lib.hid hb3
                have HCO := Lib.hid (bcost_stored w3 At k ct toks (HL.out w3 hb3).1 hnt4.out Ar m m (by omega))
                clear hb3
                go_wp2_with fail
                refine HCO.out.mono ?_
                rintro e w6 ⟨rfl, hb6⟩
                have hfin := Lib.hid (HL.out w6 (HB3.out.trans (hb6.mono HB3.out.size))).2.2
                have hpos : (0 : Int) ≤ 40 + 8 * (m : Int) := by omega
                clear hb6
                go_wp2_with fail
                go_ret
                exact ⟨by simp, hfin.out⟩
end Go.Proofs.Ytckhkkjdibcclaa
