/-
  The walk of merged: two sorted lists as one.
-/
import Derived.Test.YtbllgifmidnkhaaLimM
namespace Go.Proofs.Ytbllgifmidnkhaa
open Go.RowKit
set_option linter.unusedVariables false
/-- where s[1:] of a slice of packs lies -/
def cutP (A : Option Addr) (c : Nat) : Option Addr := if c = 1 then A else A.map (·.add 2)
theorem run_slice_one {i : TypeInfo} (hi : Try.prog.info? 40 = some i) (hs : i.size = 2) (A : Option Addr) (n c : Nat) (hn : 1 ≤ n) (W : World) :
    (Instr.slice 37 (.slice A n c) (some (.int .i64 1)) none none).run Try.prog W = .ok (.slice (cutP A c) (n - 1) (c - 1)) W := by
  have he : Try.prog.elem 37 = 40 := by simp [Program.elem, Try.underlying37]
  rw [run_slice_l W 37 A n c (by rw [he]; exact Try.underlying37) .i64 1 (by omega) (by omega), he]
  simp [sizeOf, typeInfo, hi, hs, sliced, cutP]
theorem RdP.tail {w : World} {B n c : Nat} {A : Option Addr} {e : El} {D : List El} (h : RdP w B A n (e :: D)) (hc : n ≤ c) : RdP w B (cutP A c) (n - 1) D := by
  have hn : n = D.length + 1 := h.1
  refine ⟨by omega, fun h0 => ?_⟩
  obtain ⟨ad, e1, hb, hcl⟩ := h.2 (by omega)
  refine ⟨ad.add 2, by unfold cutP; rw [if_neg (by omega), e1]; rfl, by rw [addr_block]; exact hb, fun i hi => ?_⟩
  have h9 := hcl (2 + i) (by omega)
  have ha : (ad.add 2).add i = ad.add (2 + i) := by
    rw [addr_add]
  rw [ha, h9]
  have : dF (e :: D) (2 + i) = dF D i := by
    unfold dF el
    rw [show (2 + i) % 2 = i % 2 by omega, show (2 + i) / 2 = i / 2 + 1 by omega]
    rfl
  rw [this]
theorem add_zero' (a : Addr) : a.add 0 = a := by unfold Addr.add; simp
theorem add_one' (a : Addr) : a.add 1 = ⟨a.block, a.off + 1, none⟩ := by unfold Addr.add; simp
def MgR (w : World) (B : Nat) (X : Nat → Prop) (L1 L2 : List Pk) (k : Nat) (v0 v1 v5 : Value) (wr : World) : Prop :=
  ∃ (A1 A2 A : Option Addr) (n1 c1 n2 c2 q c : Nat) (E1 E2 D : List El) (M1 M2 M : List Pk), v0 = .slice A1 n1 c1 ∧ v1 = .slice A2 n2 c2 ∧ v5 = .slice A q c ∧ n1 ≤ c1 ∧ n2 ≤ c2 ∧ Hid (RdP w B A1 n1 E1) ∧ Hid (RdP w B A2 n2 E2) ∧ Hid (All2 (MeanE w B X) E1 M1) ∧ Hid (All2 (MeanE w B X) E2 M2) ∧
    OwnP wr w.heap.size A q c D ∧ Below w.heap.size w wr ∧ Hid (All2 (MeanE w B X) D M) ∧ Hid (M ++ mrg M1 M2 = mrg L1 L2) ∧ Hid (k = n1 + n2) ∧ q + n1 + n2 ≤ 3000
set_option maxRecDepth 100000 in
set_option maxHeartbeats 8000000 in
theorem merged_any (w : World) (B n1 c1 n2 c2 : Nat) (A1 A2 : Option Addr) (L1 L2 : List Pk) (X : Nat → Prop) (h1 : PckR w B X A1 n1 L1) (h2 : PckR w B X A2 n2 L2) (hB : B ≤ w.heap.size) (hn0 : 0 < n1) (hn1 : n1 ≤ 1000) (hn2 : n2 ≤ 1000) (hc1 : n1 ≤ c1) (hc2 : n2 ≤ c2) :
    Calls Try.prog 17 #[.slice A1 n1 c1, .slice A2 n2 c2] w (PkPost w X (mrg L1 L2)) := by
  obtain ⟨i0, hi, hz0, hz1, hz2⟩ := info_parts pck_info
  have Hi := Lib.hid hi
  have Hz0 := Lib.hid hz0
  have Hz1 := Lib.hid hz1
  have Hz2 := Lib.hid hz2
  have hnI : (0 : Int) ≤ n1 ∧ (n1 : Int) ≤ 1000 ∧ (0 : Int) ≤ n2 ∧ (n2 : Int) ≤ 1000 := by omega
  obtain ⟨N, hN⟩ : ∃ N, n1 + n2 = N := ⟨_, rfl⟩
  have hsN : (n1 : Int) + (n2 : Int) = (N : Int) := by omega
  have hmk := run_make (P := Try.prog) w 37 40 i0 _ Try.underlying37 hi hz0 .i64 .i64 0 (N : Int) (Int.le_refl _) (by omega) (by rw [hz2]; omega) (by omega)
  rw [Int.toNat_natCast, hz1] at hmk
  obtain ⟨Zc, hZc⟩ : ∃ Z, madeCells (Value.agg #[.int .i64 0, .slice none 0 0]).cells (N * 2) = Z := ⟨_, rfl⟩
  have hZs : Zc.size = N * 2 := by rw [← hZc]; simp [madeCells]
  rw [hZc] at hmk
  have hmk2 : (Instr.makeSlice 37 (.int .i64 0) (.int .i64 (N : Int))).run Try.prog w = .ok (.slice (some ⟨w.heap.size, 0, none⟩) 0 N) (w.alloc (.cells Zc 40)) := hmk
  have hown0 : OwnP (w.alloc (.cells Zc 40)) w.heap.size (some ⟨w.heap.size, 0, none⟩) 0 N [] := ⟨rfl, .inr ⟨w.heap.size, Zc, rfl, Nat.le_refl _, heap_alloc_new w _, Nat.zero_le _, by unfold maxLen; omega, hZs, fun i hi => by omega⟩⟩
  have hsl := fun (A : Option Addr) (n c : Nat) (hn : 1 ≤ n) W => run_slice_one hi hz1 A n c hn W
  have HSL := Lib.hid hsl
  obtain ⟨D1, hr1, hm1⟩ := h1
  obtain ⟨D2, hr2, hm2⟩ := h2
  have hini : Hid (MgR w B X L1 L2 N (.slice A1 n1 c1) (.slice A2 n2 c2) (.slice (some ⟨w.heap.size, 0, none⟩) 0 N) (w.alloc (.cells Zc 40))) :=
    ⟨A1, A2, _, n1, c1, n2, c2, 0, N, D1, D2, [], L1, L2, [], rfl, rfl, rfl, hc1, hc2, hr1, hr2, hm1, hm2, hown0, (Below.refl _ w).alloc (Nat.le_refl _) _, .nil, rfl, hN.symm, by omega⟩
  have HBW := Lib.hid hB
  have hlm : 0 < (mrg L1 L2).length := by rw [mrg_length, ← hm1.length, ← hr1.1]; omega
  have HLM := Lib.hid hlm
  clear hi hz0 hz1 hz2 hmk hZc hZs hown0 hsl hr1 hm1 hr2 hm2 hN hn0 hn1 hn2 hc1 hc2 hB hlm
  go_enter Try.func17, Try.ntmps17
  go_wp2_with fail
  go_loopg [0, 1, 5] N (MgR w B X L1 L2)
  case atStart => exact hini.out
  case round =>
    clear hini hmk2 hnI
    obtain ⟨A1, A2, A, n1, c1, n2, c2, q, c, E1, E2, D, M1, M2, M, rfl, rfl, rfl, hc1, hc2, hr1, hr2, hm1, hm2, ho, hb, hmM, hM, hk, hq⟩ := hrel
    have hnI : (0 : Int) ≤ n1 ∧ (n1 : Int) ≤ 3000 ∧ (0 : Int) ≤ n2 ∧ (n2 : Int) ≤ 3000 := by omega
    by_cases hpos : 0 < n1 ∧ 0 < n2
    · have hp1 : (0 : Int) < n1 ∧ (0 : Int) < n2 := by omega
      obtain ⟨ad1, rfl, hb1, hcl1⟩ := hr1.out.2 (by omega)
      obtain ⟨ad2, rfl, hb2, hcl2⟩ := hr2.out.2 (by omega)
      cases E1 with
      | nil => have := hr1.out.1; simp at this; omega
      | cons x E1 =>
        cases E2 with
        | nil => have := hr2.out.1; simp at this; omega
        | cons y E2 =>
          obtain ⟨xw, xA, xn, xc⟩ := x
          obtain ⟨yw, yA, yn, yc⟩ := y
          have a0 := (hb.cell (p := ad1.add 0) (by rw [addr_block]; have := HBW.out; omega)).trans (hcl1 0 (by omega))
          have a1 := (hb.cell (p := ad1.add 1) (by rw [addr_block]; have := HBW.out; omega)).trans (hcl1 1 (by omega))
          have b0 := (hb.cell (p := ad2.add 0) (by rw [addr_block]; have := HBW.out; omega)).trans (hcl2 0 (by omega))
          have b1 := (hb.cell (p := ad2.add 1) (by rw [addr_block]; have := HBW.out; omega)).trans (hcl2 1 (by omega))
          rw [add_zero'] at a0 b0
          rw [add_one'] at a1 b1
          replace a0 : wr.cell? ad1 = some (.int .i64 xw) := a0
          replace a1 : wr.cell? ⟨ad1.block, ad1.off + 1, none⟩ = some (.slice xA xn xc) := a1
          replace b0 : wr.cell? ad2 = some (.int .i64 yw) := b0
          replace b1 : wr.cell? ⟨ad2.block, ad2.off + 1, none⟩ = some (.slice yA yn yc) := b1
          go_wp2_with fail
          go_quiet (fail)
          have hbd := below_drewN hb nq
          have hod := ho.drewN nq
          have hq1 : q + 1 ≤ 1000000000000 := by omega
          have hsa := HSL.out (some ad1) n1 c1 (by omega)
          have hsb := HSL.out (some ad2) n2 c2 (by omega)
          have hp1a : (0 : Int) < n1 := hp1.1
          have hp1b : (0 : Int) < n2 := hp1.2
          have hp1c : 0 < n1 := hpos.1
          have hp1d : 0 < n2 := hpos.2
          have HQ := Lib.hid (⟨hpos, hq⟩ : _ ∧ _)
          clear hpos hq
          by_cases hlt : yw < xw
          · have KS : Hid (∀ W, Below w.heap.size w W → W.cell? ad2 = some (.int .i64 yw) ∧ W.cell? ⟨ad2.block, ad2.off + 1, none⟩ = some (.slice yA yn yc)) := fun W hW => by
              have g0 := (hW.cell (p := ad2.add 0) (by rw [addr_block]; have := HBW.out; omega)).trans (hcl2 0 (by have := HQ.out; omega))
              have g1 := (hW.cell (p := ad2.add 1) (by rw [addr_block]; have := HBW.out; omega)).trans (hcl2 1 (by have := HQ.out; omega))
              rw [add_zero'] at g0
              rw [add_one'] at g1
              exact ⟨g0, g1⟩
            clear a0 a1 b0 b1
            go_wp2_with fail
            go_region_held3 (fun w' => w'.cell? ad2 = some (.int .i64 yw) ∧ w'.cell? ⟨ad2.block, ad2.off + 1, none⟩ = some (.slice yA yn yc))
              (first | exact KS.out _ hb6 | exact KS.out _ (hbd.alloc hbd.size _) | exact KS.out _ (hbd.drew.alloc hbd.drew.size _) | exact KS.out _ (hbd.alloc hbd.size _).drew | exact KS.out _ hbd | exact KS.out _ hbd.drew)
              (first
                | ((refine step_appP w.heap.size i0 rfl (.tmp 29) (.tmp 33) rfl Hi.out Hz0.out Hz1.out Hz2.out rfl (hod.drew.alloc (.cells #[.int .i64 yw, .slice yA yn yc] 40)) rfl (RdP.litg (w := (wr.drewN nq).drew) rfl yw yA yn yc 40) hq1 (hbd.drew.alloc hbd.drew.size _).size ?_); intro A6 d6 w6 hown6 hg6 hat6
                   have hb6 := (hbd.drew.alloc hbd.drew.size (.cells #[.int .i64 yw, .slice yA yn yc] 40)).grown hg6 (hbd.drew.alloc hbd.drew.size _).size (fun k hk => (ho.2.lt hk).1)))
            go_wp2_with fail
            go_roundg (n1 + (n2 - 1))
            case measure => have := hk.out; have := HQ.out; omega
            case rel =>
              cases hm2.out with
              | cons k1 k2 =>
                cases hm1.out with
                | cons k3 k4 =>
                  rename_i p2 M2 p1 M1
                  refine ⟨some ad1, cutP (some ad2) c2, A6, n1, c1, n2 - 1, c2 - 1, q + 1, d6, _, E2, _, p1 :: M1, M2, M ++ [p2], rfl, rfl, rfl, hc1, by omega, hr1.out, hr2.out.tail hc2, .cons k3 k4, k2, hown6, hb6, ?_, ?_, rfl, by have := HQ.out; omega⟩
                  · exact hmM.out.app (All2.one k1)
                  · have hw1 : p2.w < p1.w := by
                      rw [← k1.1, ← k3.1]; exact hlt
                    show _ = _
                    rw [← hM.out, mrg, if_pos hw1, List.append_assoc]
                    rfl
          · have hlt2 : decide (yw < xw) = false := by simp; omega
            have KS : Hid (∀ W, Below w.heap.size w W → W.cell? ad1 = some (.int .i64 xw) ∧ W.cell? ⟨ad1.block, ad1.off + 1, none⟩ = some (.slice xA xn xc)) := fun W hW => by
              have g0 := (hW.cell (p := ad1.add 0) (by rw [addr_block]; have := HBW.out; omega)).trans (hcl1 0 (by have := HQ.out; omega))
              have g1 := (hW.cell (p := ad1.add 1) (by rw [addr_block]; have := HBW.out; omega)).trans (hcl1 1 (by have := HQ.out; omega))
              rw [add_zero'] at g0
              rw [add_one'] at g1
              exact ⟨g0, g1⟩
            clear a0 a1 b0 b1
            go_wp2_with fail
            go_region_held3 (fun w' => w'.cell? ad1 = some (.int .i64 xw) ∧ w'.cell? ⟨ad1.block, ad1.off + 1, none⟩ = some (.slice xA xn xc))
              (first | exact KS.out _ hb6 | exact KS.out _ (hbd.alloc hbd.size _) | exact KS.out _ (hbd.drew.alloc hbd.drew.size _) | exact KS.out _ (hbd.alloc hbd.size _).drew | exact KS.out _ hbd | exact KS.out _ hbd.drew)
              (first
                | ((refine step_appP w.heap.size i0 rfl (.tmp 37) (.tmp 41) rfl Hi.out Hz0.out Hz1.out Hz2.out rfl (hod.drew.alloc (.cells #[.int .i64 xw, .slice xA xn xc] 40)) rfl (RdP.litg (w := (wr.drewN nq).drew) rfl xw xA xn xc 40) hq1 (hbd.drew.alloc hbd.drew.size _).size ?_); intro A6 d6 w6 hown6 hg6 hat6
                   have hb6 := (hbd.drew.alloc hbd.drew.size (.cells #[.int .i64 xw, .slice xA xn xc] 40)).grown hg6 (hbd.drew.alloc hbd.drew.size _).size (fun k hk => (ho.2.lt hk).1)))
            go_wp2_with fail
            go_roundg (n1 - 1 + n2)
            case measure => have := hk.out; have := HQ.out; omega
            case rel =>
              cases hm2.out with
              | cons k1 k2 =>
                cases hm1.out with
                | cons k3 k4 =>
                  rename_i p2 M2 p1 M1
                  refine ⟨cutP (some ad1) c1, some ad2, A6, n1 - 1, c1 - 1, n2, c2, q + 1, d6, E1, _, _, M1, p2 :: M2, M ++ [p1], rfl, rfl, rfl, by omega, hc2, hr1.out.tail hc1, hr2.out, k4, .cons k1 k2, hown6, hb6, ?_, ?_, rfl, by have := HQ.out; omega⟩
                  · exact hmM.out.app (All2.one k3)
                  · have hw1 : ¬ p2.w < p1.w := by
                      rw [← k1.1, ← k3.1]; show ¬ yw < xw; omega
                    show _ = _
                    rw [← hM.out, mrg, if_neg hw1, List.append_assoc]
                    rfl
    · have hcs : (n1 = 0) ∨ (0 < n1 ∧ n2 = 0) := by omega
      have hsame : mrg M1 M2 = M1 ++ M2 := by
        have l1 : M1.length = n1 := by rw [← hm1.out.length, ← hr1.out.1]
        have l2 : M2.length = n2 := by rw [← hm2.out.length, ← hr2.out.1]
        rcases hcs with h | ⟨_, h⟩
        · have : M1 = [] := List.eq_nil_of_length_eq_zero (by omega)
          rw [this, nil_mrg]; rfl
        · have : M2 = [] := List.eq_nil_of_length_eq_zero (by omega)
          rw [this, mrg_nil, List.append_nil]
      have hM2 := hM.out
      rw [hsame] at hM2
      have ra := hr1.out.below (hb.mono HBW.out)
      have hbs := hb.size
      have hqa : q + n1 ≤ 1000000000000 := by omega
      have hqb : q + n1 + n2 ≤ 1000000000000 := by omega
      have hfin : Hid (∀ A7 c7 w7, OwnP w7 w.heap.size A7 (q + n1 + n2) c7 (D ++ E1 ++ E2) → Below w.heap.size w w7 → PkPost w X (mrg L1 L2) (.returned (.slice A7 (q + n1 + n2) c7)) w7) := fun A7 c7 w7 h7 hb7 => by
        have hA7 : All2 (MeanE w B X) (D ++ E1 ++ E2) (M ++ M1 ++ M2) := (hmM.out.app hm1.out).app hm2.out
        rw [show M ++ M1 ++ M2 = M ++ (M1 ++ M2) by simp, hM2] at hA7
        have hpos7 : 0 < q + n1 + n2 := by rw [h7.1, hA7.length]; exact HLM.out
        obtain ⟨g7, rfl⟩ := h7.2.addr hpos7
        refine ⟨g7, _, c7, rfl, hb7, ⟨_, h7.rd, hA7.mono fun e _ pk hm => ⟨hm.1, (hm.2.1.below (hb7.mono HBW.out)).more (Nat.le_trans HBW.out hb7.size), hm.2.2⟩⟩, h7.2.capLe, (h7.2.lt rfl).1, (h7.2.lt rfl).2⟩
      have HR2 := Lib.hid hr2.out
      have hcI : ((n1 : Int) = 0) ∨ ((0 : Int) < n1 ∧ (n2 : Int) = 0) := by omega
      have HC := Lib.hid hcI
      have hk1 : ¬ (0 : Int) < n1 ∨ ((0 : Int) < n1 ∧ ¬ (0 : Int) < n2) := by omega
      clear hcs hsame hM2 hpos hq hcI
      rcases hk1 with hk1 | ⟨hk1, hk2⟩
      all_goals
        go_wp2_with (first
          | (at_builtin; (refine wpList_appP w.heap.size i0 rfl (.tmp 45) (.tmp 46) rfl Hi.out Hz0.out Hz1.out Hz2.out rfl ho rfl ra hqa hbs ?_); intro A6 d6 w6 hown6 hg6 hat6; have hb6 := hb.grown hg6 hbs (fun k hk => (ho.2.lt hk).1); have rb := HR2.out.below (hb6.mono HBW.out))
          | (have _g := hb6; at_builtin; (refine wpList_appP w.heap.size i0 rfl (.tmp 47) (.tmp 48) rfl Hi.out Hz0.out Hz1.out Hz2.out rfl hown6 rfl rb hqb hb6.size ?_); intro A7 d7 w7 hown7 hg7 hat7; have hb7 := hb6.grown hg7 hb6.size (fun k hk => (hown6.2.lt hk).1)))
        all_goals go_ret
        all_goals exact hfin.out _ _ _ hown7 hb7
end Go.Proofs.Ytbllgifmidnkhaa
