/-
  Several texts in one (written by pack2.py): PlnW, BkD, BkE.
-/
import Derived.Test.YtlgkiookobedcaaPk19
import Derived.BigRegion
import Derived.Deep.CutBlock
import Derived.Deep.DeepCutAuto
import Derived.Deep.RegionLaw
import Derived.Test.YtlgkiookobedcaaPk18
import Derived.Test.YtlgkiookobedcaaPk8
namespace Go.Proofs.Ytlgkiookobedcaa
open Go.RowKit
set_option linter.unusedVariables false
set_option maxRecDepth 100000 in
set_option maxHeartbeats 4000000 in
theorem planned_any (w : World) (At : Option Addr) (nt ct : Nat) (toks : List Tok) (hT : RdT w w.heap.size At nt toks) (hnt : toks.length < 1048576) (hsnd : ∀ t ∈ toks, soundT t ∧ 0 ≤ t.lit ∧ t.lit < 256) :
    Calls Try.prog 49 #[.slice At nt ct] w (PlanPost w toks) := by
  have hw0 : Below w.heap.size w (w.alloc (.cells #[.slice none 0 0, .slice none 0 0, .slice none 0 0, .slice none 0 0, .int .i64 0] 92)) := (Below.refl _ w).alloc (Nat.le_refl _) _
  have HFQ := Lib.hid (freqs_any (w.alloc (.cells #[.slice none 0 0, .slice none 0 0, .slice none 0 0, .slice none 0 0, .int .i64 0] 92)) At nt ct toks ((hT.below hw0).more (by simp)) (by have := hT.1; omega) hsnd)
  have hmv := fq_mv hnt
  have HMV := Lib.hid hmv
  have hr0 : Ar (w.alloc (.cells #[.slice none 0 0, .slice none 0 0, .slice none 0 0, .slice none 0 0, .int .i64 0] 92)) w.heap.size 5 (pnf nilS nilS nilS nilS (.int .i64 0)) := pnf_new w _ _ _ _ _ _
  have H0 := Lib.hid (⟨hr0, hw0⟩ : _ ∧ _)
  have HNT := Lib.hid hnt
  clear hT hnt hsnd hw0 hmv hr0
  go_enter Try.func49, Try.ntmps49
  go_wp2_with fail
  refine HFQ.out.mono ?_
  rintro e w2 ⟨g1, g2, rfl, hM⟩
  have hS2 : PlS w (w2.alloc (.cells #[.slice none 0 0, .slice none 0 0, .slice none 0 0, .slice none 0 0, .int .i64 0] 92)) w.heap.size w2.heap.size nilS nilS nilS nilS (.int .i64 0) :=
    ⟨(H0.out.1.keeps hM.bel).alloc _, pnf_new _ _ _ _ _ _ _, (H0.out.2.trans (hM.bel.mono H0.out.2.size)).alloc (H0.out.2.trans (hM.bel.mono H0.out.2.size)).size _, Nat.le_refl _, Nat.lt_of_lt_of_le (by simp) hM.bel.size⟩
  have hM2 := hM.alloc (.cells #[.slice none 0 0, .slice none 0 0, .slice none 0 0, .slice none 0 0, .int .i64 0] 92)
  have hg12 : g1 < w2.heap.size ∧ g2 < w2.heap.size := ⟨(hM.lit.2.lt rfl).2, (hM.dist.2.lt rfl).2⟩
  have HL1 := Lib.hid (lengths_any (w2.alloc (.cells #[.slice none 0 0, .slice none 0 0, .slice none 0 0, .slice none 0 0, .int .i64 0] 92)) (some ⟨g1, 0, none⟩) 286 286 _ hM2.lit.rd 15 (by decide))
  have HS2 := Lib.hid hS2
  have HM2 := Lib.hid (⟨hM2.dist, hg12⟩ : _ ∧ _)
  clear hS2 hM2 hg12 hM
  go_wp2_with fail
  obtain ⟨wa, hwa⟩ : ∃ wa, w2.alloc (.cells #[.slice none 0 0, .slice none 0 0, .slice none 0 0, .slice none 0 0, .int .i64 0] 92) = wa := ⟨_, rfl⟩
  obtain ⟨P, hP⟩ : ∃ P, w2.heap.size = P := ⟨_, rfl⟩
  obtain ⟨R, hR⟩ : ∃ R, w.heap.size = R := ⟨_, rfl⟩
  rw [hwa, hP] at HS2
  rw [hwa, hP] at HM2
  rw [hwa] at HL1
  rw [hwa, hP]
  rw [show PlS w wa w.heap.size P = PlS w wa R P by rw [hR]] at HS2
  rw [hR]
  clear hwa hP hR H0
  clear w2
  refine HL1.out.mono ?_
  rintro e w3 ⟨AL, cL, L, rfl, hb3, ho3, -, hR3⟩
  have e3 : L = litL toks := (hR3 HMV.out.1).eq
  rw [HMV.out.1]
  subst e3
  have h3 := HS2.out.keeps hb3
  have hP3 : P < wa.heap.size := HS2.out.box.lt
  have hop : blkOf AL ≠ some P := fun e => by have := (ho3.2.lt e).1; omega
  have hd3 := HM2.out.1.keeps hb3
  obtain ⟨⟨x0, -⟩, z⟩ := h3.cells
  have z0 := z 0 (by omega)
  rw [litL_len] at ho3 ⊢
  have hgP : blkOf (some (⟨g2, 0, none⟩ : Addr)) ≠ some P := fun e => by
    have e' : g2 = P := by injection e
    have := HM2.out.2.2
    omega
  have HW3 := Lib.hid (⟨h3.put0 (.slice AL 286 cL), (ho3.far (p := ⟨P, 0, none⟩) hop (.slice AL 286 cL)).more (b1 := R + 1) (by have := HS2.out.plo; omega), hd3.far (p := ⟨P, 0, none⟩) hgP (.slice AL 286 cL), hop, hP3⟩ : _ ∧ _ ∧ _ ∧ _ ∧ _)
  clear z h3 hop hd3 ho3 hR3 hb3 hP3 HL1 HS2 HM2 hgP
  go_wp2_with fail
  obtain ⟨wb, hwb⟩ : ∃ wb, w3.setCell ⟨P, 0, none⟩ (.slice AL 286 cL) = wb := ⟨_, rfl⟩
  rw [hwb] at HW3
  have HL2 := Lib.hid (lengths_any wb (some ⟨g2, 0, none⟩) 30 30 _ HW3.out.2.2.1.rd 15 (by decide))
  have HB3 : Hid (P < wb.heap.size) := HW3.out.1.box.lt
  rw [hwb]
  clear hwb x0 z0
  clear w3
  refine HL2.out.mono ?_
  rintro e w4 ⟨AD, cD, D, rfl, hb4, ho4, -, hR4⟩
  have e4 : D = dstL toks := (hR4 HMV.out.2).eq
  rw [HMV.out.2]
  subst e4
  have h4 := HW3.out.1.keeps hb4
  have hop : blkOf AD ≠ some P := fun e => by have := (ho4.2.lt e).1; have := HB3.out; omega
  have hl4 := HW3.out.2.1.keeps hb4
  have hld : ∀ k, blkOf AL = some k → blkOf AD ≠ some k := fun k h1 h2 => by have := (ho4.2.lt h2).1; have := (HW3.out.2.1.2.lt h1).2; omega
  obtain ⟨⟨-, x1, -⟩, z⟩ := h4.cells
  have z1 := z 1 (by omega)
  rw [dstL_len] at ho4 ⊢
  have HW4 := Lib.hid (⟨h4.put1 (.slice AD 30 cD), (⟨hl4.far (p := ⟨P, 1, none⟩) HW3.out.2.2.2.1 (.slice AD 30 cD), (ho4.far (p := ⟨P, 1, none⟩) hop (.slice AD 30 cD)).more (b1 := R + 1) (by have := HW3.out.1.plo; have := HB3.out; omega), HW3.out.2.2.2.1, hop, hld⟩ : PlR (R + 1) _ P AL AD 286 cL 30 cD (litL toks) (dstL toks))⟩ : _ ∧ _)
  clear z h4 hop hl4 hld ho4 hR4 hb4 HL2 HW3
  go_upto_region 5 with fail
  obtain ⟨wc, hwc⟩ : ∃ wc, w4.setCell ⟨P, 1, none⟩ (.slice AD 30 cD) = wc := ⟨_, rfl⟩
  rw [hwc] at HW4
  rw [hwc]
  clear hwc x1 z1
  clear HB3
  clear w4 wb
  go_cut [] (fun wx => PlS w wx R P (.slice AL (litN toks) cL) (.slice AD (dstN toks) cD) (.slice none 0 0) (.slice none 0 0) (.int .i64 0) ∧ PlR (R + 1) wx P AL AD (litN toks) cL (dstN toks) cD ((litL toks).take (litN toks)) ((dstL toks).take (dstN toks)))
  case first =>
    obtain ⟨⟨x0, x1, x2, x3, x4⟩, z⟩ := HW4.out.1.cells
    have z0 := z 0 (by omega)
    have z1 := z 1 (by omega)
    have hTT : Hid (∀ W, PlR (R + 1) W P AL AD 286 cL 30 cD (litL toks) (dstL toks) → ∀ A n c few m, TrI AL AD cL cD (litN toks) (dstN toks) A n c few m → Calls Try.prog 67 #[.slice A n c, .int .i64 few] W fun e w' => e = .returned (.slice A m c) ∧ W = w') := fun W h => trim_two W h
    obtain ⟨n1, hn1⟩ : ∃ n, litN toks = n := ⟨_, rfl⟩
    obtain ⟨n2, hn2⟩ : ∃ n, dstN toks = n := ⟨_, rfl⟩
    obtain ⟨l1, hl1⟩ : ∃ l, litL toks = l := ⟨_, rfl⟩
    obtain ⟨l2, hl2⟩ : ∃ l, dstL toks = l := ⟨_, rfl⟩
    have hR := HW4.out.2
    rw [hn1, hn2, hl1, hl2] at hTT
    rw [hl1, hl2] at hR
    have HE := Lib.hid (⟨hn1, hn2, hl1, hl2⟩ : _ ∧ _ ∧ _ ∧ _)
    have hb : n1 ≤ 286 ∧ n2 ≤ 30 := by have := litN_bd toks; have := dstN_bd toks; omega
    rw [hl1, hl2] at HW4
    have HB := Lib.hid hb
    clear hn1 hn2 hl1 hl2 hb HMV HNT
    go_wp2_with fail
    go_region_law
      ((go_simp; go_at_call 67; (refine (hTT.out _ (by first | exact hR | exact hR.drew) _ _ _ _ _ (by constructor)).mono ?_); rintro e w5 ⟨rfl, rfl⟩))
    all_goals
      obtain ⟨hn1, hn2, hl1, hl2⟩ := HE.out
      have h5 := (HW4.out.1.put0 (.slice AL n1 cL)).put1 (.slice AD n2 cD)
      have h6 := (HW4.out.1.put1 (.slice AD n2 cD)).put0 (.slice AL n1 cL)
      have h7 := ((hR.put 0 (.slice AL n1 cL)).put 1 (.slice AD n2 cD)).pre HB.out.1 HB.out.2
      have h8 := ((hR.put 1 (.slice AD n2 cD)).put 0 (.slice AL n1 cL)).pre HB.out.1 HB.out.2
      have H58 := Lib.hid (⟨h5, h6, h7, h8⟩ : _ ∧ _ ∧ _ ∧ _)
      have HE2 := Lib.hid (⟨hn1, hn2, hl1, hl2⟩ : _ ∧ _ ∧ _ ∧ _)
      clear h5 h6 h7 h8 hn1 hn2 hl1 hl2 HE
      go_wp2_with fail
      go_meet
      obtain ⟨h5, h6, h7, h8⟩ := H58.out
      obtain ⟨hn1, hn2, hl1, hl2⟩ := HE2.out
      rw [hn1, hn2, hl1, hl2]
      first | exact ⟨h5.drew, h7.drew⟩ | exact ⟨h6.drew, h8.drew⟩
  case rest =>
    have HC := Lib.hid hcut
    clear hcut HW4
    have hN2 := dstN_bd toks
    obtain ⟨n2, hn2⟩ : ∃ n, dstN toks = n := ⟨_, rfl⟩
    rw [hn2] at hN2
    obtain ⟨v, hv⟩ : ∃ v, ix (dstL toks) 0 = v := ⟨_, rfl⟩
    have HNV := Lib.hid (⟨hn2, hv⟩ : _ ∧ _)
    have HC2 := Lib.hid HC.out
    rw [hn2] at HC2
    obtain ⟨gd, hgd⟩ : ∃ gd, AD = some ⟨gd, 0, none⟩ := HC2.out.2.dist.2.addr (by omega)
    subst hgd
    obtain ⟨y0, yz⟩ := HC2.out.2.dist.head (i := 0) (by omega)
    rw [ix_takeB (by omega), hv] at y0
    obtain ⟨⟨x0, x1, x2, x3, x4⟩, z⟩ := HC2.out.1.cells
    clear hn2 hv
    have HY := Lib.hid (⟨y0, yz, x1, hN2⟩ : _ ∧ _ ∧ _ ∧ _)
    clear y0 yz x0 x1 x2 x3 x4 z
    go_upto_region 6 with fail
    go_cut [45] (fun v45 wx => v45 = .bool (decide (n2 = 1 ∧ v = 0)) ∧ wx = wc)
    case first =>
      obtain ⟨y0, yz, x1, hN2⟩ := HY.out
      by_cases h1 : n2 = 1
      · subst h1
        by_cases h0 : v = 0
        · subst h0
          go_wp2_with fail
          all_goals go_meet
          all_goals exact ⟨rfl, rfl⟩
        · have h0' : (v == 0) = false := by simpa using h0
          have hf := Lib.hid (show false = decide ((1 : Nat) = 1 ∧ v = 0) from (decide_eq_false fun h => h0 h.2).symm)
          go_wp2_with fail
          all_goals go_meet
          all_goals exact ⟨congrArg Value.bool hf.out, rfl⟩
      · have h1' : ((n2 : Int) == 1) = false := by simp; omega
        have hf := Lib.hid (show false = decide (n2 = 1 ∧ v = 0) from (decide_eq_false fun h => h1 h.1).symm)
        go_wp2_with fail
        all_goals go_meet
        all_goals exact ⟨congrArg Value.bool hf.out, rfl⟩
    case rest =>
      obtain ⟨rfl, hwx⟩ := hcut
      obtain rfl := hwx.symm
      go_upto_if 45 with fail
      go_cut [] (fun wx => PlS w wx R P (.slice AL (litN toks) cL) (.slice (some ⟨gd, 0, none⟩) n2 cD) (.slice none 0 0) (.slice none 0 0) (.int .i64 0) ∧ PlR (R + 1) wx P AL (some ⟨gd, 0, none⟩) (litN toks) cL n2 cD (plLit toks) (plDist toks))
      case first =>
        by_cases hc : n2 = 1 ∧ v = 0
        · rw [decide_eq_true hc]
          obtain ⟨y0, yz, x1, hN2⟩ := HY.out
          obtain ⟨e1, e2⟩ := hc
          have hpd : plDist toks = [1] := by unfold plDist; rw [if_pos ⟨by rw [HNV.out.1]; exact e1, by rw [HNV.out.2]; exact e2⟩]
          have HF : Hid (∀ W, PlR (R + 1) W P AL (some ⟨gd, 0, none⟩) (litN toks) cL n2 cD ((litL toks).take (litN toks)) ((dstL toks).take n2) → PlR (R + 1) (W.setCell ⟨gd, 0, none⟩ (.int .i64 1)) P AL (some ⟨gd, 0, none⟩) (litN toks) cL n2 cD (plLit toks) (plDist toks)) := fun W h => by
            refine ⟨h.lit.far (p := ⟨gd, 0, none⟩) (fun e => h.ld _ e rfl) _, ?_, h.lp, h.dp, h.ld⟩
            have h9 := h.dist.put (i := 0) (by omega) 1
            rw [hpd]
            have e9 : ((dstL toks).take n2).set 0 1 = [1] := by
              have hl9 := dstL_len toks
              rw [e1]
              cases hd9 : dstL toks with
              | nil => rw [hd9] at hl9; simp at hl9
              | cons a b => simp
            rw [e9] at h9
            exact h9
          have hP : gd ≠ P := fun e => HC2.out.2.dp (by rw [e]; rfl)
          have hRn : R ≠ gd := fun e => by have h1 : R + 1 ≤ gd := (HC2.out.2.dist.2.lt rfl).1; omega
          have HS := Lib.hid (⟨HC2.out.1.far (p := ⟨gd, 0, none⟩) hRn (fun e => hP e.symm) (by have h1 : R + 1 ≤ gd := (HC2.out.2.dist.2.lt rfl).1; have h2 := HC2.out.1.rlo; show w.heap.size ≤ gd; omega) (.int .i64 1), HF.out _ HC2.out.2⟩ : _ ∧ _)
          subst e1
          clear hpd HF hP hRn e2
          go_wp2_with fail
          all_goals go_meet
          all_goals exact HS.out
        · rw [decide_eq_false hc]
          have hpd : plDist toks = (dstL toks).take n2 := by unfold plDist; rw [if_neg (by rw [HNV.out.1, HNV.out.2]; exact hc), HNV.out.1]
          have HS := Lib.hid HC2.out
          rw [← hpd] at HS
          clear hpd
          go_wp2_with fail
          all_goals go_meet
          all_goals exact HS.out
      case rest =>
        have H3 := Lib.hid hcut
        clear hcut HC2 HC HY
        obtain ⟨AD, hAD⟩ : ∃ A : Option Addr, (some ⟨gd, 0, none⟩ : Option Addr) = A := ⟨_, rfl⟩
        rw [hAD] at H3
        rw [← HNV.out.1] at H3
        obtain ⟨nl, hnl⟩ : ∃ n, litN toks = n := ⟨_, rfl⟩
        obtain ⟨nd, hnd⟩ : ∃ n, dstN toks = n := ⟨_, rfl⟩
        obtain ⟨l, hl⟩ : ∃ l, plLit toks = l := ⟨_, rfl⟩
        obtain ⟨d, hd⟩ : ∃ l, plDist toks = l := ⟨_, rfl⟩
        rw [hnl, hnd, hl, hd] at H3
        have hNB : nl ≤ 286 ∧ nd ≤ 30 := by have := litN_bd toks; have := dstN_bd toks; omega
        have hpos : ∀ i, i < (l ++ d).length → 0 ≤ ix (l ++ d) i := fun i hi => by
          rw [← hl, ← hd] at hi ⊢
          exact (both_in HNT.out i hi).1
        have HRU : Hid (plRuns toks = runsP (l ++ d)) := by show _ = _; rw [← hl, ← hd]; rfl
        have HE := Lib.hid (⟨hnl, hnd, hl, hd, hNB, hpos⟩ : _ ∧ _ ∧ _ ∧ _ ∧ _ ∧ _)
        clear hnl hnd hl hd hNB hpos hAD HNV
        go_upto_region 8 with fail
        go_cut [] (fun wx => ∃ Ar nr cr, PlS w wx R P (.slice AL nl cL) (.slice AD nd cD) (.slice none 0 0) (.slice Ar nr cr) (.int .i64 0) ∧ PlR (R + 1) wx P AL AD nl cL nd cD l d ∧ OwnR wx (R + 1) Ar nr cr (plRuns toks) ∧ blkOf Ar ≠ some P)
        case first =>
          obtain ⟨i0, hi, hz0, hz1, hz2⟩ := info_parts bko_info
          have Hi := Lib.hid (⟨hi, hz0, hz1, hz2⟩ : _ ∧ _ ∧ _ ∧ _)
          clear hi hz0 hz1 hz2
          obtain ⟨⟨x0, x1, x2, x3, x4⟩, z⟩ := H3.out.1.cells
          have hS0 := H3.out.1.alloc (.cells #[] 3)
          have hR0 := H3.out.2.alloc (.cells #[] 3)
          have hO0 : OwnI .i64 (wc.alloc (.cells #[] 3)) (R + 1) 3 (some ⟨wc.heap.size, 0, none⟩) 0 0 [] := OwnI.lit (k := .i64) (w := wc) rfl [] 3 (by have := H3.out.1.box.lt; have := H3.out.1.plo; omega) (by decide)
          obtain ⟨⟨y0, y1, -, -, -⟩, -⟩ := hS0.cells
          have hPw := H3.out.1.box.lt
          have hpl := H3.out.1.plo
          have hwP : wc.heap.size ≠ P := by omega
          obtain ⟨hnl, hnd, hl, hd, hNB, hpos⟩ := HE.out
          have hsz : R + 1 ≤ (wc.alloc (.cells #[] 3)).heap.size := by simp; omega
          have HGE : Hid (∀ k, wc.heap.size ≤ k → R < k ∧ k ≠ P ∧ blkOf AL ≠ some k ∧ blkOf AD ≠ some k) := fun k hk => ⟨by omega, by omega, fun e => by have := (H3.out.2.lit.2.lt e).2; omega, fun e => by have := (H3.out.2.dist.2.lt e).2; omega⟩
          have HG0 : Hid (∀ k, blkOf (some (⟨wc.heap.size, 0, none⟩ : Addr)) = some k → R < k ∧ k ≠ P ∧ blkOf AL ≠ some k ∧ blkOf AD ≠ some k) := fun k hk => HGE.out k (by injection hk with hk; exact Nat.le_of_eq hk)
          have HNB := Lib.hid hNB
          clear hnl hnd hl hd hpos HMV HNT x2 x3 x4 z hPw hpl hwP
          have hS0d := hS0.drew
          have hR0d := hR0.drew
          go_wp2_with fail
          go_region_law
            (first
              | (have _g := ho5
                 go_simp
                 go_at_call 68
                 refine HRN.out.mono ?_
                 rintro e w6 ⟨Ar, nr, cr, rfl, ho6, hb6⟩
                 have s6 := q5.1.keeps hb6
                 have r6 := q5.2.keeps hb6
                 obtain ⟨⟨-, -, -, v3, -⟩, vz⟩ := s6.cells
                 have vz3 := vz 3 (by omega))
              | (have _g := ho4
                 refine step_app .i64 (R + 1) 3 i0 8 rfl (.tmp 52) (.tmp 54) _ rfl Try.underlying32 Hi.out.1 Hi.out.2.1 Hi.out.2.2.1 Hi.out.2.2.2 rfl ho4 rfl q4.2.dist.rd (by omega) (by omega) hsz4 ?_
                 intro A5 c5 w5 ho5 hg5 hat5
                 have q5 := plan_app q4.1 q4.2 (fun k hk => HGE.out k (ha4 k hk)) hg5
                 have hrn := runs_any w5 A5 (nl + nd) c5 _ (l ++ d) ho5.rd (Nat.le_refl _) (by omega) HE.out.2.2.2.2.2
                 rw [← HRU.out] at hrn
                 have HRN := Lib.hid hrn
                 clear hrn)
              | (refine step_app .i64 (R + 1) 3 i0 8 rfl (.tmp 49) (.tmp 51) _ rfl Try.underlying32 Hi.out.1 Hi.out.2.1 Hi.out.2.2.1 Hi.out.2.2.2 rfl hO0 rfl hR0.lit.rd (by omega) (by omega) hsz ?_
                 intro A4 c4 w4 ho4 hg4 hat4
                 rw [Nat.zero_add, List.nil_append] at ho4
                 have q4 := plan_app hS0d hR0d HG0.out hg4
                 obtain ⟨⟨-, v1, -, -, -⟩, -⟩ := q4.1.cells
                 have hsz4 : R + 1 ≤ w4.heap.size := Nat.le_trans hsz hg4.size
                 have ha4 : ∀ k, blkOf A4 = some k → wc.heap.size ≤ k := fun k hk => by
                   rcases hat4 with h | h
                   · rw [h] at hk; injection hk with hk; exact Nat.le_of_eq hk
                   · rw [h] at hk; injection hk with hk; rw [← hk]; simp))
          all_goals
            have hor : blkOf Ar ≠ some P := fun e => by have h1 : w5.heap.size ≤ P := (ho6.2.lt e).1; have h2 := q5.1.box.lt; omega
            have HF := Lib.hid (⟨s6.put3 (.slice Ar nr cr), r6.put 3 (.slice Ar nr cr), (show OwnR (w6.setCell ⟨P, 3, none⟩ (.slice Ar nr cr)) (R + 1) Ar nr cr (plRuns toks) from ⟨ho6.1, ((ho6.more (b1 := R + 1) (Nat.le_trans hsz4 hg5.size)).2).far (p := ⟨P, 3, none⟩) hor _⟩), hor⟩ : _ ∧ _ ∧ _ ∧ _)
            clear s6 r6 v3 vz vz3 hor HRN
            go_wp2_with fail
            go_meet
            exact ⟨Ar, nr, cr, HF.out⟩
        case rest =>
          obtain ⟨Ar, nr, cr, hs4, hr4, ho4, hop4⟩ := hcut
          obtain ⟨i0, hi, hz0, hz1, hz2⟩ := info_parts bko_info
          have hmk : ∀ W, (Instr.makeSlice 32 (.int .i64 19) (.int .i64 19)).run Try.prog W = .ok (.slice (some ⟨W.heap.size, 0, none⟩) 19 19) (W.alloc (.cells (zrow 19 (.int .i64 0)) 3)) := fun W => run_make_zrow (P := Try.prog) 32 3 i0 (.int .i64 0) Try.underlying32 hi hz0 hz1 rfl .i64 .i64 19 (by rw [hz2]; omega) (by omega) W
          have hPw := hs4.box.lt
          have hpl := hs4.plo
          have hH : PlH w (wc.alloc (.cells (zrow 19 (.int .i64 0)) 3)) R P wc.heap.size AL AD nl cL nd cD l d Ar nr cr (plRuns toks) (hdF []) :=
            ⟨hs4.alloc _, hr4.alloc _, ho4.alloc _, hop4, OwnI.zeros wc rfl 19 _ (by omega) (by omega), by omega, fun e => by have := (hr4.lit.2.lt e).2; omega, fun e => by have := (hr4.dist.2.lt e).2; omega, fun e => by have := (ho4.2.lt e).2; omega⟩
          obtain ⟨⟨-, -, -, v3, -⟩, vz⟩ := (hs4.alloc (.cells (zrow 19 (.int .i64 0)) 3)).cells
          have HH := Lib.hid hH
          have hnr := Lib.hid ho4.1
          have hrl := plRuns_len toks
          have hnr' : nr ≤ 316 := by rw [ho4.1]; exact hrl
          have hnrI : (0 : Int) ≤ nr ∧ (nr : Int) ≤ 316 := by omega
          have HROK := Lib.hid (plRuns_ok HNT.out)
          clear hs4 hr4 ho4 hop4 hi hz0 hz1 hz2 hPw hpl hH vz hrl hnr' H3
          go_wp2_with fail
          clear hmk v3
          obtain ⟨gh, hgh⟩ : ∃ g, wc.heap.size = g := ⟨_, rfl⟩
          obtain ⟨wd, hwd⟩ : ∃ W, wc.alloc (.cells (zrow 19 (.int .i64 0)) 3) = W := ⟨_, rfl⟩
          rw [hgh, hwd] at HH
          rw [hgh, hwd]
          clear hgh hwd
          obtain ⟨rs, hrs⟩ : ∃ r, plRuns toks = r := ⟨_, rfl⟩
          rw [hrs] at HH hnr HROK
          have HRS := Lib.hid hrs
          clear hrs
          go_loopg [62] nr (fun (gk : Nat) (v62 : Value) wx => ∃ k : Nat, v62 = .int .i64 k ∧ k ≤ nr ∧ Hid (PlH w wx R P gh AL AD nl cL nd cD l d Ar nr cr rs (hdF (rs.take k))) ∧ Hid (gk = nr - k))
          case atStart => exact ⟨0, rfl, Nat.zero_le _, HH.out, rfl⟩
          case round =>
            clear HH
            obtain ⟨k, rfl, hk, hs, hg⟩ := hrel
            by_cases hlt : k < nr
            · have hkI : (k : Int) < (nr : Int) ∧ (0 : Int) ≤ (k : Int) := by omega
              obtain ⟨ad, hA, hbl, a0, a1, a2⟩ := hs.out.o.rd.at3 hlt
              have hkl : k < rs.length := by rw [← hnr.out]; exact hlt
              have hok := HROK.out _ (rnAt_mem hkl)
              have htk := rn_take hkl
              obtain ⟨⟨C, V, E⟩, hr⟩ : ∃ r, rnAt rs k = r := ⟨_, rfl⟩
              rw [hr] at a0 a1 a2 hok htk
              have hc0 : 0 ≤ C ∧ C ≤ 18 := hok.1
              obtain ⟨c, rfl⟩ := Int.eq_ofNat_of_zero_le hc0.1
              replace a0 : wr.cell? (ad.add (k * 3)) = some (.int .i64 (c : Int)) := a0
              replace a1 : wr.cell? { block := (ad.add (k * 3)).block, off := (ad.add (k * 3)).off + 1 } = some (.int .i64 V) := a1
              replace a2 : wr.cell? { block := (ad.add (k * 3)).block, off := (ad.add (k * 3)).off + 2 } = some (.int .i64 E) := a2
              have hcb : c < 19 := by omega
              have hcI : (0 : Int) ≤ (c : Int) ∧ (c : Int) < 19 := by omega
              have hsA := hs.out.alloc (.cells #[.int .i64 (c : Int), .int .i64 V, .int .i64 E] 115)
              obtain ⟨y0, yz⟩ := hsA.h.head (i := c) hcb
              have hbd := hdF_bd (rs.take k) c
              have hle3 : (rs.take k).length ≤ k := by rw [List.length_take]; exact Nat.min_le_left _ _
              have hfin := hsA.set hcb (ix (hdF (rs.take k)) c + 1)
              have hpe : (hdF (rs.take k)).set c (ix (hdF (rs.take k)) c + 1) = hdF (rs.take (k + 1)) := by rw [htk, hdF_snoc]; rfl
              rw [hpe] at hfin
              obtain ⟨X, hX⟩ : ∃ X, ix (hdF (rs.take k)) c = X := ⟨_, rfl⟩
              rw [hX] at hfin hbd y0
              have hXb : 0 ≤ X ∧ X ≤ 316 := by omega
              have HF := Lib.hid hfin
              have HLT := Lib.hid hlt
              subst hA
              clear hbl hok htk hr hc0 hsA hbd hle3 hfin hpe hX hkl hlt
              go_wp2_with fail
              go_roundg (nr - (k + 1))
              case measure => have := hg.out; have := HLT.out; omega
              case rel => exact ⟨k + 1, by go_num, HLT.out, HF.out, rfl⟩
            · obtain rfl : k = nr := by omega
              have hkI : ¬ (k : Int) < (k : Int) := by omega
              have htk : rs.take k = rs := List.take_of_length_le (by rw [← hnr.out]; exact Nat.le_refl _)
              have hH := hs.out
              rw [htk] at hH
              have HL3 := Lib.hid (lengths_any wr (some ⟨gh, 0, none⟩) 19 19 _ hH.h.rd 7 (by decide))
              have HS := Lib.hid hH
              clear htk hH hs hg hlt hk
              go_wp2_with fail
              refine HL3.out.mono ?_
              rintro e w5 ⟨AH, cH, L, rfl, hb5, ho5, -, hR5⟩
              have hmv := hd_mv toks
              rw [HRS.out] at hmv
              have e5 : L = plHead toks := by
                have := (hR5 hmv).eq
                rw [this, ← HRS.out]; rfl
              rw [hmv]
              subst e5
              have hlen5 := plHead_len toks
              have s5 := HS.out.s.keeps hb5
              have r5 := HS.out.r.keeps hb5
              have o5 := HS.out.o.keeps hb5
              have hop : blkOf AH ≠ some P := fun e => by have h1 := (ho5.2.lt e).1; have h2 := HS.out.s.box.lt; omega
              obtain ⟨⟨-, -, v2, -, -⟩, vz⟩ := s5.cells
              have vz2 := vz 2 (by omega)
              rw [hlen5] at ho5 ⊢
              have s6 := s5.put2 (.slice AH 19 cH)
              have r6 := r5.put 2 (.slice AH 19 cH)
              have o6 : OwnR (w5.setCell ⟨P, 2, none⟩ (.slice AH 19 cH)) (R + 1) Ar k cr rs := ⟨o5.1, o5.2.far (p := ⟨P, 2, none⟩) HS.out.op _⟩
              have h6 := (ho5.far (p := ⟨P, 2, none⟩) hop (.slice AH 19 cH)).more (b1 := R + 1) (by have h1 := HS.out.s.plo; have h2 := HS.out.s.box.lt; omega)
              obtain ⟨⟨-, -, -, -, x4⟩, xz⟩ := s6.cells
              have xz4 := xz 4 (by omega)
              have s7 := s6.put4 (.int .i64 19)
              have r7 := r6.put 4 (.int .i64 19)
              have o7 : OwnR ((w5.setCell ⟨P, 2, none⟩ (.slice AH 19 cH)).setCell ⟨P, 4, none⟩ (.int .i64 19)) (R + 1) Ar k cr rs := ⟨o6.1, o6.2.far (p := ⟨P, 4, none⟩) HS.out.op _⟩
              have h7 := h6.far (p := ⟨P, 4, none⟩) hop (.int .i64 19)
              have H7 := Lib.hid (⟨s7, r7, o7, h7, hop, HS.out.op⟩ : _ ∧ _ ∧ _ ∧ _ ∧ _ ∧ _)
              clear hmv hlen5 s5 r5 o5 hop vz s6 r6 o6 h6 xz s7 r7 o7 h7 ho5 hR5 hb5 HL3 HS
              go_upto_region 17 with fail
              obtain ⟨wf, hwf⟩ : ∃ W, (w5.setCell ⟨P, 2, none⟩ (.slice AH 19 cH)).setCell ⟨P, 4, none⟩ (.int .i64 19) = W := ⟨_, rfl⟩
              rw [hwf] at H7
              rw [hwf]
              clear hwf v2 vz2 x4 xz4
              clear w5
              go_cut [9] (fun v9 wx => ∃ go, v9 = .pointer (some ⟨go, 0, none⟩) ∧ OrdM wx go ∧ wf.heap.size ≤ go ∧ Below wf.heap.size wf wx)
              case first =>
                go_wp2_with fail
                refine (order_any wf).mono ?_
                rintro e w6 ⟨rfl, rfl⟩
                have HSZ : Hid (wf.heap.size + 1 = (wf.alloc (.cells ordC 116)).heap.size) := by show _ = _; simp
                go_wp2_with (refine wpList_ord rfl (.tmp 9) (.tmp 81) rfl rfl (wf.heap.size + 1) HSZ.out rfl rfl _ rfl ?_)
                go_meet
                exact ⟨_, rfl, by have h9 := OrdM.new (wf.alloc (.cells ordC 116)); rw [← HSZ.out] at h9; exact h9, Nat.le_succ _, ((Below.refl _ _).alloc (Nat.le_refl _) _).alloc (by simp) _⟩
              case rest =>
                obtain ⟨go, rfl, ho9, hgo, hb9⟩ := hcut
                obtain ⟨s7, r7, o7, h7, hop, hrp⟩ := H7.out
                have hz7 : PlZ w wf R P AL AD AH Ar nl cL nd cD cH k cr l d rs (plHead toks) 19 := ⟨s7, r7, o7, hrp, h7, hop⟩
                have hz8 := hz7.keeps hb9
                have hPgo : P ≠ go := by have := s7.box.lt; omega
                have hRgo : R ≠ go := by have := s7.box.lt; have := s7.plo; omega
                obtain ⟨hd, hhd⟩ : ∃ h, plHead toks = h := ⟨_, rfl⟩
                have HN : Hid (trimQ (ordQ.map fun k => ix hd k.toNat) 4 19 = plN toks) := by show _ = _; rw [← hhd]; rfl
                have hin : Hid (∀ i, i < 19 → 0 ≤ ix hd i ∧ ix hd i ≤ 7) := fun i hi => by
                  rw [← hhd]; exact chk_in (plHead_check toks) i (by rw [plHead_len]; exact hi)
                rw [hhd] at hz8
                have HZ := Lib.hid (⟨hz8, ho9, hPgo, hRgo⟩ : _ ∧ _ ∧ _ ∧ _)
                have HHD := Lib.hid hhd
                clear s7 r7 o7 h7 hop hrp hz7 hz8 ho9 hgo hb9 hPgo hRgo hhd H7
                go_wp2_with fail
                go_loopg [9] 19 (fun (gk : Nat) (v9 : Value) wx => ∃ go n : Nat, v9 = .pointer (some ⟨go, 0, none⟩) ∧ Hid (PlZ w wx R P AL AD AH Ar nl cL nd cD cH k cr l d rs hd n) ∧ Hid (OrdM wx go) ∧ P ≠ go ∧ R ≠ go ∧ 4 ≤ n ∧ n ≤ 19 ∧ Hid (trimQ (ordQ.map fun k => ix hd k.toNat) 4 n = plN toks) ∧ Hid (gk = n))
                case atStart => exact ⟨go, 19, rfl, HZ.out.1, HZ.out.2.1, HZ.out.2.2.1, HZ.out.2.2.2, by omega, by omega, HN.out, rfl⟩
                case round =>
                  clear HZ HN
                  clear go
                  obtain ⟨go, n, rfl, hz, hor, hPg, hRg, hn4, hn19, htr, hg⟩ := hrel
                  obtain ⟨q, rfl⟩ : ∃ q, n = q + 1 := ⟨n - 1, by omega⟩
                  obtain ⟨n, hnq⟩ : ∃ n, q + 1 = n := ⟨_, rfl⟩
                  have hob := ordQ_bd q (by omega)
                  obtain ⟨K, hK⟩ := Int.eq_ofNat_of_zero_le hob.1
                  have hK18 : K < 19 := by omega
                  have hmq : ix (ordQ.map fun k => ix hd k.toNat) q = ix hd K := by
                    have e1 : ∀ (L : List Int) (g : Int → Int) (i : Nat), i < L.length → ix (L.map g) i = g (ix L i) := fun L g i hi => by simp [ix, hi]
                    rw [e1 _ _ _ (by show q < 19; omega), hK]; rfl
                  obtain ⟨X, hX⟩ : ∃ X, ix hd K = X := ⟨_, rfl⟩
                  have c1 := hor.out.cell (i := q) (by omega)
                  rw [hK] at c1
                  obtain ⟨ga, hga⟩ : ∃ ga, AH = some ⟨ga, 0, none⟩ := hz.out.h.2.addr (by omega)
                  have c2 := hz.out.h
                  rw [hga] at c2
                  have c3 := (c2.head (i := K) hK18).1
                  rw [hX] at c3
                  have hsp := hz.out.s
                  rw [hga] at hsp
                  obtain ⟨⟨-, -, d2, -, d4⟩, dz⟩ := hsp.cells
                  have dz4 := dz 4 (by omega)
                  have HTR : Hid (¬ (4 < n ∧ X = 0) → n = plN toks) := fun h => by
                    have h9 := htr.out
                    rw [trimQ_stop (by rw [hmq, hX]; omega)] at h9
                    omega
                  have HTG : Hid (4 < n ∧ X = 0 → trimQ (ordQ.map fun k => ix hd k.toNat) 4 q = plN toks) := fun h => by
                    have h9 := htr.out
                    rw [trimQ_go ⟨by omega, by rw [hmq, hX]; exact h.2⟩] at h9
                    exact h9
                  have hsub : (n : Int) - 1 = (q : Int) := by omega
                  have hwr : IntKind.i64.wrap ((n : Int) - 1) = (q : Int) := by rw [hsub]; exact wr_in (by omega)
                  have hqI : (0 : Int) ≤ (q : Int) ∧ (q : Int) < 19 ∧ (0 : Int) ≤ (K : Int) ∧ (K : Int) < 19 ∧ (4 : Int) ≤ (n : Int) ∧ (n : Int) ≤ 19 := by omega
                  rw [hnq] at hz hg hn4 hn19 d4
                  have HNQ := Lib.hid (⟨hnq, hga⟩ : _ ∧ _)
                  have HD := Lib.hid (⟨c1, c3, d2, d4⟩ : _ ∧ _ ∧ _ ∧ _)
                  clear c1 c2 c3 hga hsp d2 d4 dz dz4 hmq hX hK hob hnq htr
                  go_upto_region 18 with fail
                  go_cut [96] (fun v96 wx => v96 = .bool (decide (4 < n ∧ X = 0)) ∧ Hid (PlZ w wx R P AL AD AH Ar nl cL nd cD cH k cr l d rs hd n) ∧ Hid (OrdM wx go))
                  case first =>
                    obtain ⟨c1, c3, d2, d4⟩ := HD.out
                    by_cases h4 : 4 < n
                    · have h4I : (4 : Int) < (n : Int) := by omega
                      by_cases h0 : X = 0
                      · subst h0
                        have hf := Lib.hid (show true = decide (4 < n ∧ (0 : Int) = 0) from (decide_eq_true ⟨h4, rfl⟩).symm)
                        go_wp2_with fail
                        go_quiet (fail)
                        all_goals go_wp2_with fail
                        all_goals go_meet
                        all_goals exact ⟨congrArg Value.bool hf.out, hz.out.drewN _, hor.out⟩
                      · have h0b : (X == 0) = false := by simpa using h0
                        have hf := Lib.hid (show false = decide (4 < n ∧ X = 0) from (decide_eq_false fun h => h0 h.2).symm)
                        go_wp2_with fail
                        go_quiet (fail)
                        all_goals go_wp2_with fail
                        all_goals go_meet
                        all_goals exact ⟨congrArg Value.bool hf.out, hz.out.drewN _, hor.out⟩
                    · have h4I : decide ((4 : Int) < (n : Int)) = false := by simp; omega
                      have hf := Lib.hid (show false = decide (4 < n ∧ X = 0) from (decide_eq_false fun h => h4 h.1).symm)
                      go_wp2_with fail
                      go_quiet (fail)
                      all_goals go_wp2_with fail
                      all_goals go_meet
                      all_goals exact ⟨congrArg Value.bool hf.out, hz.out.drewN _, hor.out⟩
                  case rest =>
                    clear HD hz hor
                    obtain ⟨rfl, hz, hor⟩ := hcut
                    by_cases hc : 4 < n ∧ X = 0
                    · rw [decide_eq_true hc]
                      obtain ⟨⟨-, -, -, -, d4⟩, dz⟩ := hz.out.s.cells
                      have dz4 := dz 4 (by omega)
                      have HO : Hid (OrdM (wc.setCell ⟨P, 4, none⟩ (.int .i64 (q : Int))) go) := hor.out.far (p := ⟨P, 4, none⟩) (fun e => hPg e.symm) _
                      have hz2 := (hz.out.put4 q).alloc (.cells ordC 116)
                      have hor2 : OrdM ((wc.setCell ⟨P, 4, none⟩ (.int .i64 (q : Int))).alloc (.cells ordC 116)) wc.heap.size := by
                        have h9 := OrdM.new (wc.setCell ⟨P, 4, none⟩ (.int .i64 (q : Int)))
                        have e9 : (wc.setCell ⟨P, 4, none⟩ (.int .i64 (q : Int))).heap.size = wc.heap.size := by simp [World.setCell]
                        rw [e9] at h9
                        exact h9
                      have HSZ : Hid (wc.heap.size = (wc.setCell ⟨P, 4, none⟩ (.int .i64 (q : Int))).heap.size) := by show _ = _; simp [World.setCell]
                      have hP9 := hz.out.s.box.lt
                      have hR9 := hz.out.s.res.lt
                      have HF := Lib.hid (⟨hz2, hor2, Nat.ne_of_lt hP9, Nat.ne_of_lt hR9, hc.1, HTG.out hc⟩ : _ ∧ _ ∧ _ ∧ _ ∧ _ ∧ _)
                      clear hz2 hor2 dz hz hor hc HTR HTG hP9 hR9
                      go_wp2_with (first
                        | (refine wpList_load_row rfl 116 (.tmp 9) rfl go rfl 116 ordC (0, 0) _ HO.out Try.underlying116 rfl (by kernel_rfl) ?_)
                        | (refine wpList_ord rfl (.tmp 9) (.tmp 101) rfl rfl wc.heap.size HSZ.out rfl rfl _ rfl ?_))
                      go_roundg q
                      case measure => have := hg.out; have := HNQ.out.1; omega
                      case rel => exact ⟨wc.heap.size, q, rfl, HF.out.1, HF.out.2.1, HF.out.2.2.1, HF.out.2.2.2.1, by have := HF.out.2.2.2.2.1; have := HNQ.out.1; omega, by have := HNQ.out.1; omega, HF.out.2.2.2.2.2, rfl⟩
                    · rw [decide_eq_false hc]
                      obtain ⟨⟨d0, d1, d2, d3, d4⟩, -⟩ := hz.out.s.cells
                      have hrs := hz.out.s.res
                      have r0 := hrs.frozen' (i := 0) (by omega)
                      have r1 := hrs.frozen' (i := 1) (by omega)
                      have r2 := hrs.frozen' (i := 2) (by omega)
                      have r3 := hrs.frozen' (i := 3) (by omega)
                      have r4 := hrs.frozen' (i := 4) (by omega)
                      have c0 := hrs.cell (i := 0) (by omega)
                      have c1 := hrs.cell (i := 1) (by omega)
                      have c2 := hrs.cell (i := 2) (by omega)
                      have c3 := hrs.cell (i := 3) (by omega)
                      have c4 := hrs.cell (i := 4) (by omega)
                      have hz3 := hz.out
                      rw [← HHD.out, ← HRS.out, ← HE.out.2.2.1, ← HE.out.2.2.2.1] at hz3
                      have HFIN := Lib.hid (plan_fin hz3 HE.out.1 HE.out.2.1 (HTR.out hc))
                      have HRES := Lib.hid (fun a b c d e => put5_ar (a := a) (b := b) (c := c) (d := d) (e := e) hrs)
                      clear hz3 hrs hor hc HTR HTG hz
                      go_wp2_with ((with_reducible (show bodyPost _ _ _ _ _ _)); exact bodyPost_ret (results_plan (HRES.out (.slice AL nl cL) (.slice AD nd cD) (.slice AH 19 cH) (.slice Ar k cr) (.int .i64 (n : Int))) rfl) rfl (HFIN.out (.slice AL nl cL) (.slice AD nd cD) (.slice AH 19 cH) (.slice Ar k cr) (.int .i64 (n : Int))))
end Go.Proofs.Ytlgkiookobedcaa
namespace Go.Proofs.Ytlgkiookobedcaa
open Go.RowKit
set_option linter.unusedVariables false
def hd3 (kind : Int) (last : Bool) (L : List Int) : List Int := L ++ ofN (if last then 1 else 0) 1 ++ ofN kind 2
def outB (kind : Int) (toks : List Tok) (raw : List Int) (last : Bool) (L : List Int) : List Int :=
  if kind = 0 then stoB (hd3 kind last L) raw else if kind = 1 then hd3 kind last L ++ blkB fixL fixD toks else hd3 kind last L ++ planB toks ++ blkB (plLit toks) (plDist toks) toks
theorem hd3_len (kind : Int) (last : Bool) (L : List Int) : (hd3 kind last L).length = L.length + 3 := by unfold hd3; rw [List.length_append, List.length_append, ofN_length, ofN_length]
theorem BkS.step {w w1 w2 : World} {b0 g : Nat} {A A1 : Option Addr} {L' : List Int} (h : Chg w w1 (foot A g)) (hA1 : ∀ k, blkOf A1 = some k → blkOf A = some k ∨ w.heap.size ≤ k) (h2 : BkS w1 w2 b0 g A1 L') : BkS w w2 b0 g A L' := by
  obtain ⟨⟨A', n', c', q1, q2⟩, q3⟩ := h2
  exact BkS.next h hA1 q1 q3 q2
theorem sep_on {w : World} {g : Nat} {A A1 B : Option Addr} (hA1 : ∀ k, blkOf A1 = some k → blkOf A = some k ∨ w.heap.size ≤ k) (hb : ∀ ad, B = some ad → ad.block < w.heap.size) (h : ∀ ad, B = some ad → ¬ foot A g ad.block) : ∀ ad, B = some ad → ¬ foot A1 g ad.block := fun ad e hk => by
  rcases hk with hk | hk
  · exact h ad e (.inl hk)
  · rcases hA1 _ hk with h1 | h1
    · exact h ad e (.inr h1)
    · have := hb ad e; omega
set_option maxRecDepth 100000 in
set_option maxHeartbeats 4000000 in
theorem wkind_stored (w : World) (b0 g n c : Nat) (A : Option Addr) (L : List Int) (hw : Wtr w b0 g A n c L) (At : Option Addr) (nt ct : Nat) (toks : List Tok) (hT : RdT w w.heap.size At nt toks) (hnt : (nt : Int) ≤ 4611686018427387904)
    (C : Option Addr) (m cr : Nat) (raw : List Int) (hr : RdI .u8 w w.heap.size C m raw) (hsep : 0 < m → ∀ ad, C = some ad → ¬ foot A g ad.block) (hby : ∀ x ∈ raw, 0 ≤ x ∧ x < 256) (last : Bool) (hm : m ≤ 65535) (hlen : L.length ≤ 2000000000000) :
    Calls Try.prog 29 #[.pointer (some ⟨g, 0, none⟩), .int .i64 0, .slice At nt ct, .slice C m cr, .bool last] w fun e w' => e = .returned (.bool true) ∧ BkS w w' b0 g A (stoB (hd3 0 last L) raw) := by
  have HM := Lib.hid (may_any w 0 At nt ct toks hT hnt C m cr)
  have HF := Lib.hid (show bkMay 0 toks m = true by unfold bkMay; rw [if_pos rfl]; exact decide_eq_true hm)
  have HH := Lib.hid (⟨hw, hr, hsep, hby, hm, hlen⟩ : _ ∧ _ ∧ _ ∧ _ ∧ _ ∧ _)
  obtain ⟨mk, hmk⟩ : ∃ mk : Int, (if last = true then (1 : Int) else 0) = mk := ⟨_, rfl⟩
  have HD3 : Hid (hd3 0 last L = L ++ ofN mk 1 ++ ofN 0 2) := by show _ = _; rw [← hmk]; rfl
  have HMK := Lib.hid hmk
  have hmb : 0 ≤ mk ∧ mk ≤ 1 := by cases last <;> simp at hmk <;> omega
  clear hT hw hr hsep hby hm hlen hmk
  go_enter Try.func29, Try.ntmps29
  go_wp2_with fail
  refine HM.out.mono ?_
  rintro e w1 ⟨rfl, hb1⟩
  rw [HF.out]
  have HS0 := Lib.hid (BkS.start HH.out.1 hb1)
  have HB1 := Lib.hid hb1
  clear hb1
  go_upto_if 24 with fail
  go_cut [11] (fun v11 wx => v11 = .int .u32 mk ∧ wx = w1)
  case first =>
    cases last with
    | false =>
      obtain rfl : mk = 0 := HMK.out.symm
      go_wp2_with fail
      go_meet
      exact ⟨rfl, rfl⟩
    | true =>
      obtain rfl : mk = 1 := HMK.out.symm
      go_wp2_with fail
      go_meet
      exact ⟨rfl, rfl⟩
  case rest =>
    obtain ⟨rfl, hwx⟩ := hcut
    obtain rfl := hwx.symm
    have HP1 := Lib.hid (HS0.out.put mk 1 (by omega) (by decide) (by have := HH.out.2.2.2.2.2; omega))
    go_wp2_with fail
    refine HP1.out.mono ?_
    rintro e w2 ⟨rfl, h2⟩
    have HP2 := Lib.hid (h2.put 0 2 (by decide) (by decide) (by rw [List.length_append, ofN_length]; have := HH.out.2.2.2.2.2; omega))
    clear h2
    go_wp2_with fail
    refine HP2.out.mono ?_
    rintro e w3 ⟨rfl, h3⟩
    rw [← HD3.out] at h3
    obtain ⟨⟨A3, n3, c3, hw3, hA3⟩, hc3⟩ := h3
    obtain ⟨hw, hr, hsep, hby, hm, hlen⟩ := HH.out
    have hst := stored_any w3 b0 g n3 c3 w.heap.size m cr A3 C _ raw hw3 (hc3.rdI hr (Nat.le_refl _) hsep) hc3.size (fun h0 => sep_on hA3 (fun ad e => by
      obtain ⟨ad', e', hb', _⟩ := hr.2 h0
      rw [e] at e'; injection e' with e'; rw [e']; exact hb') (hsep h0)) hby (by rw [hd3_len]; omega) hm
    have HST := Lib.hid hst
    have HC3 := Lib.hid (⟨hA3, hc3⟩ : _ ∧ _)
    clear hst hw3 hA3 hc3 hw hr hsep hby hm hlen
    go_wp2_with fail
    refine HST.out.mono ?_
    rintro e w4 ⟨rfl, h4⟩
    have hfin := Lib.hid (BkS.step HC3.out.2 HC3.out.1 h4)
    clear h4
    go_wp2_with fail
    go_ret
    exact ⟨rfl, hfin.out⟩
theorem may_two {toks : List Tok} {m : Nat} (hm : bkMay 2 toks m = true) : toks.length < 1048576 ∧ ∀ t ∈ toks, soundT t := by
  unfold bkMay at hm
  rw [if_neg (by decide)] at hm
  by_cases h : ¬ ((2 : Int) = 1 ∨ (2 : Int) = 2) ∨ 1048576 ≤ toks.length
  · rw [if_pos h] at hm; exact absurd hm (by decide)
  · rw [if_neg h, List.all_eq_true] at hm
    exact ⟨by omega, fun t ht => of_decide_eq_true (hm t ht)⟩
theorem planB_le {t : List Tok} (ht : t.length < 1048576) : (planB t).length ≤ 10000 := by
  have h1 := rnsB_le (hd := plHead t) (fun i hi => by have := chk_in (plHead_check t) i hi; omega) (plRuns t) (plRuns_ok ht)
  have h2 := plRuns_len t
  have h3 := plN_bd t
  unfold planB
  simp only [List.length_append, ofN_length]
  rw [ordB_len _ _ (by omega)]
  omega
set_option maxRecDepth 100000 in
set_option maxHeartbeats 4000000 in
theorem wkind_dyn (w : World) (b0 g n c : Nat) (A : Option Addr) (L : List Int) (hw : Wtr w b0 g A n c L) (At : Option Addr) (nt ct : Nat) (toks : List Tok) (hT : RdT w w.heap.size At nt toks) (hsep : 0 < nt → ∀ ad, At = some ad → ¬ foot A g ad.block) (hlit : ∀ t ∈ toks, 0 ≤ t.lit ∧ t.lit < 256)
    (C : Option Addr) (m cr : Nat) (last : Bool) (hm : bkMay 2 toks m = true) (hlen : L.length ≤ 2000000000000) :
    Calls Try.prog 29 #[.pointer (some ⟨g, 0, none⟩), .int .i64 2, .slice At nt ct, .slice C m cr, .bool last] w fun e w' => e = .returned (.bool true) ∧ BkS w w' b0 g A (hd3 2 last L ++ planB toks ++ blkB (plLit toks) (plDist toks) toks) := by
  obtain ⟨hm1, hm2⟩ := may_two hm
  have hnl := hT.1
  have HM := Lib.hid (may_any w 2 At nt ct toks hT (by omega) C m cr)
  have HF := Lib.hid hm
  have HH := Lib.hid (⟨hw, hT, hsep, hlit, hm1, hm2, hlen, hnl⟩ : _ ∧ _ ∧ _ ∧ _ ∧ _ ∧ _ ∧ _ ∧ _)
  obtain ⟨mk, hmk⟩ : ∃ mk : Int, (if last = true then (1 : Int) else 0) = mk := ⟨_, rfl⟩
  have HD3 : Hid (hd3 2 last L = L ++ ofN mk 1 ++ ofN 2 2) := by show _ = _; rw [← hmk]; rfl
  have HMK := Lib.hid hmk
  have hmb : 0 ≤ mk ∧ mk ≤ 1 := by cases last <;> simp at hmk <;> omega
  clear hT hw hsep hlit hm hm1 hm2 hlen hmk hnl
  go_enter Try.func29, Try.ntmps29
  go_wp2_with fail
  refine HM.out.mono ?_
  rintro e w1 ⟨rfl, hb1⟩
  rw [HF.out]
  have HS0 := Lib.hid (BkS.start HH.out.1 hb1)
  have HB1 := Lib.hid hb1
  clear hb1
  go_upto_if 24 with fail
  go_cut [11] (fun v11 wx => v11 = .int .u32 mk ∧ wx = w1)
  case first =>
    cases last with
    | false =>
      obtain rfl : mk = 0 := HMK.out.symm
      go_wp2_with fail
      go_meet
      exact ⟨rfl, rfl⟩
    | true =>
      obtain rfl : mk = 1 := HMK.out.symm
      go_wp2_with fail
      go_meet
      exact ⟨rfl, rfl⟩
  case rest =>
    obtain ⟨rfl, hwx⟩ := hcut
    obtain rfl := hwx.symm
    have HP1 := Lib.hid (HS0.out.put mk 1 (by omega) (by decide) (by have := HH.out.2.2.2.2.2.2.1; omega))
    go_wp2_with fail
    refine HP1.out.mono ?_
    rintro e w2 ⟨rfl, h2⟩
    have HP2 := Lib.hid (h2.put 2 2 (by decide) (by decide) (by rw [List.length_append, ofN_length]; have := HH.out.2.2.2.2.2.2.1; omega))
    clear h2
    go_wp2_with fail
    refine HP2.out.mono ?_
    rintro e w3 ⟨rfl, h3⟩
    rw [← HD3.out] at h3
    obtain ⟨⟨A3, n3, c3, hw3, hA3⟩, hc3⟩ := h3
    have hT3 : RdT w3 w3.heap.size At nt toks := (HH.out.2.1.chg hc3 (Nat.le_refl _) HH.out.2.2.1).more hc3.size
    have HPL := Lib.hid (planned_any w3 At nt ct toks hT3 HH.out.2.2.2.2.1 fun t ht => ⟨HH.out.2.2.2.2.2.1 t ht, HH.out.2.2.2.1 t ht⟩)
    have H3 := Lib.hid (⟨hw3, hA3, hc3, hT3⟩ : _ ∧ _ ∧ _ ∧ _)
    clear hw3 hA3 hc3 hT3
    go_wp2_with fail
    refine HPL.out.mono ?_
    rintro e w4 hpp
    obtain ⟨vv, rfl⟩ : ∃ v, e = .returned v := by obtain ⟨Al, cl, Ad, cd, Ah, ch, Ax, cx, e1, _⟩ := hpp; exact ⟨_, e1⟩
    obtain ⟨Al, Ad, Ah, Ax, cl, cd, ch, cx, rfl, hb4, hpb⟩ := PlB.new hpp
    clear hpp
    have hbA : Below w3.heap.size w3 (w4.alloc (.cells #[.slice Al (litN toks) cl, .slice Ad (dstN toks) cd, .slice Ah 19 ch, .slice Ax (plRuns toks).length cx, .int .i64 ((plN toks : Nat) : Int)] 92)) := hb4.alloc hb4.size _
    have hpw := pwrite_any _ b0 g n3 c3 A3 _ (H3.out.1.keeps hbA) w4.heap.size w3.heap.size (w4.heap.size + 1) toks Al Ad Ah Ax cl cd ch cx hpb HH.out.2.2.2.2.1 (by simp) (fun k hk => (H3.out.1.foot_lo hk).2) (by rw [hd3_len]; have := HH.out.2.2.2.2.2.2.1; omega)
    have HPW := Lib.hid hpw
    have H4 := Lib.hid (⟨hbA, hpb⟩ : _ ∧ _)
    clear hb4 hpb hbA hpw
    go_wp2_with fail
    obtain ⟨wb, hwb⟩ : ∃ W, w4.alloc (.cells #[.slice Al (litN toks) cl, .slice Ad (dstN toks) cd, .slice Ah 19 ch, .slice Ax (plRuns toks).length cx, .int .i64 ((plN toks : Nat) : Int)] 92) = W := ⟨_, rfl⟩
    have hsz4 : w4.heap.size + 1 = wb.heap.size := by rw [← hwb]; simp
    rw [hwb] at HPW H4
    rw [hwb]
    have HSZ := Lib.hid hsz4
    clear hwb hsz4
    refine HPW.out.mono ?_
    rintro e w5 ⟨rfl, h5⟩
    obtain ⟨⟨A5, n5, c5, hw5, hA5⟩, hc5⟩ := h5
    obtain ⟨hw3, hA3, hc3, hT3⟩ := H3.out
    obtain ⟨hw, hT, hsep, hlit, hm1, hm2, hlen, hnl⟩ := HH.out
    have hpl5 := H4.out.2.chg hc5 (by rw [HSZ.out]; exact Nat.le_refl _) fun k hk => .inl (hw3.foot_lo hk).2
    obtain ⟨k0, k1, -⟩ := hpl5.cells
    have hsep3 : 0 < nt → ∀ ad, At = some ad → ¬ foot A3 g ad.block := fun h0 => sep_on hA3 (fun ad e => by
      obtain ⟨ad', e', hb', _⟩ := hT.2 h0
      rw [e] at e'; injection e' with e'; rw [e']; exact hb') (hsep h0)
    have h34 : w3.heap.size ≤ wb.heap.size := H4.out.1.size
    have hsep5 : 0 < nt → ∀ ad, At = some ad → ¬ foot A5 g ad.block := fun h0 => sep_on hA5 (fun ad e => by
      obtain ⟨ad', e', hb', _⟩ := hT3.2 h0
      rw [e] at e'; injection e' with e'; rw [e']; exact Nat.lt_of_lt_of_le hb' h34) (hsep3 h0)
    have hT5 : RdT w5 w3.heap.size At nt toks := (hT3.below H4.out.1).chg hc5 h34 hsep3
    have hbl := litN_bd toks
    have hbd := dstN_bd toks
    have htk := tokens_any w5 b0 g n5 c5 A5 _ hw5 w3.heap.size At nt ct toks hT5 (Nat.le_trans h34 hc5.size) hsep5 (fun t ht => ⟨hm2 t ht, hlit t ht⟩) (by rw [List.length_append, hd3_len]; have := planB_le hm1; omega)
      (w4.heap.size + 1) Al (litN toks) cl (plLit toks) hpl5.lit (by rw [HSZ.out]; exact hc5.size) (by omega) (plLit_check hm1) (w4.heap.size + 1) Ad (dstN toks) cd (plDist toks) hpl5.dist (by rw [HSZ.out]; exact hc5.size) (by omega) (plDist_check hm1)
    have HTK := Lib.hid htk
    have HS5 : Hid (∀ W L', BkS w5 W b0 g A5 L' → BkS w W b0 g A L') := fun W L' h => BkS.step hc3 hA3 (BkS.step (w1 := wb) (A1 := A3) (Chg.of_below H4.out.1) (fun k hk => .inl hk) (BkS.step hc5 hA5 h))
    clear htk hw5 hA5 hc5 hw3 hA3 hc3 hT3 hw hT hsep hlit hm1 hm2 hlen hnl hpl5 hsep3 h34 hsep5 hT5 hbl hbd HPW
    go_wp2_with fail
    refine HTK.out.mono ?_
    rintro e w6 ⟨rfl, h6⟩
    have hfin := Lib.hid (HS5.out _ _ h6)
    clear h6 k0 k1
    go_wp2_with fail
    go_ret
    exact ⟨rfl, hfin.out⟩
theorem wkind_any (w : World) (b0 g n c : Nat) (A : Option Addr) (L : List Int) (hw : Wtr w b0 g A n c L) (kind : Int) (At : Option Addr) (nt ct : Nat) (toks : List Tok) (hT : RdT w w.heap.size At nt toks) (hnt : (nt : Int) ≤ 4611686018427387904) (hsep : 0 < nt → ∀ ad, At = some ad → ¬ foot A g ad.block) (hlit : ∀ t ∈ toks, 0 ≤ t.lit ∧ t.lit < 256)
    (C : Option Addr) (m cr : Nat) (raw : List Int) (hr : RdI .u8 w w.heap.size C m raw) (hsepr : 0 < m → ∀ ad, C = some ad → ¬ foot A g ad.block) (hby : ∀ x ∈ raw, 0 ≤ x ∧ x < 256) (last : Bool) (hm : bkMay kind toks m = true) (hlen : L.length ≤ 2000000000000) :
    Calls Try.prog 29 #[.pointer (some ⟨g, 0, none⟩), .int .i64 kind, .slice At nt ct, .slice C m cr, .bool last] w fun e w' => e = .returned (.bool true) ∧ BkS w w' b0 g A (outB kind toks raw last L) := by
  have hk : kind = 0 ∨ kind = 1 ∨ kind = 2 := by
    unfold bkMay at hm
    by_cases h0 : kind = 0
    · exact .inl h0
    · rw [if_neg h0] at hm
      by_cases h : ¬ (kind = 1 ∨ kind = 2) ∨ 1048576 ≤ toks.length
      · rw [if_pos h] at hm; exact absurd hm (by decide)
      · omega
  unfold outB
  rcases hk with rfl | rfl | rfl
  · rw [if_pos rfl]
    refine wkind_stored w b0 g n c A L hw At nt ct toks hT hnt C m cr raw hr hsepr hby last ?_ hlen
    unfold bkMay at hm
    rw [if_pos rfl] at hm
    exact of_decide_eq_true hm
  · rw [if_neg (by decide), if_pos rfl]
    exact wkind_fixed w b0 g n c A L hw At nt ct toks hT hsep hlit C m cr last hm (by omega)
  · rw [if_neg (by decide), if_neg (by decide)]
    exact wkind_dyn w b0 g n c A L hw At nt ct toks hT hsep hlit C m cr last hm hlen
end Go.Proofs.Ytlgkiookobedcaa
namespace Go.Proofs.Ytlgkiookobedcaa
open Go.RowKit
set_option linter.unusedVariables false
def costF (t : List Tok) : Int := 3 + costTo fixL (fqT t).1 286 + costTo fixD (fqT t).2 30 + ((exs t : Nat) : Int)
def costD (t : List Tok) : Int := 3 + szP t + costTo (plLit t) (fqT t).1 (litN t) + costTo (plDist t) (fqT t).2 (dstN t) + ((exs t : Nat) : Int)
def costB (kind : Int) (t : List Tok) (m : Nat) : Int := if kind = 0 then 40 + 8 * (m : Int) else if kind = 1 then costF t else costD t
theorem may_one {toks : List Tok} {m : Nat} (hm : bkMay 1 toks m = true) : toks.length < 1048576 ∧ ∀ t ∈ toks, soundT t := by
  unfold bkMay at hm
  rw [if_neg (by decide)] at hm
  by_cases h : ¬ ((1 : Int) = 1 ∨ (1 : Int) = 2) ∨ 1048576 ≤ toks.length
  · rw [if_pos h] at hm; exact absurd hm (by decide)
  · rw [if_neg h, List.all_eq_true] at hm
    exact ⟨by omega, fun t ht => of_decide_eq_true (hm t ht)⟩
theorem bel_drewN {b : Nat} {w w' : World} (h : Below b w w') (q : Nat) : Below b w (w'.drewN q) := ⟨h.os, h.tape, h.output, h.size, h.block⟩
theorem cost_bel (A C : Option Addr) (n m c d : Nat) (l f : List Int) (w : World) (hl : RdI .i64 w w.heap.size A n l) (hf : RdI .i64 w w.heap.size C m f) (hn : n ≤ 1000) (hm : m ≤ 1000) :
    Calls Try.prog 72 #[.slice A n c, .slice C m d] w fun e w' => e = .returned (.int .i64 (costTo l f (min n m))) ∧ Below w.heap.size w w' :=
  (cost_any A C n m c d l f w w.heap.size hl hf hn hm).mono fun e w' h => ⟨h.1, by obtain ⟨q, rfl⟩ := h.2; exact bel_drewN (Below.refl _ w) q⟩
set_option maxRecDepth 100000 in
set_option maxHeartbeats 4000000 in
theorem bcost_fixed (w : World) (At : Option Addr) (nt ct : Nat) (toks : List Tok) (hT : RdT w w.heap.size At nt toks) (hlit : ∀ t ∈ toks, 0 ≤ t.lit ∧ t.lit < 256) (C : Option Addr) (m cr : Nat) (hm : bkMay 1 toks m = true) :
    Calls Try.prog 58 #[.int .i64 1, .slice At nt ct, .slice C m cr] w fun e w' => e = .returned (.int .i64 (costF toks)) ∧ Below w.heap.size w w' := by
  obtain ⟨hm1, hm2⟩ := may_one hm
  have hnl := hT.1
  have HM := Lib.hid (may_any w 1 At nt ct toks hT (by omega) C m cr)
  have HF := Lib.hid hm
  have HH := Lib.hid (⟨hT, hlit, hm1, hm2, hnl⟩ : _ ∧ _ ∧ _ ∧ _ ∧ _)
  have HB : Hid (costTo_bd fixL (fqT toks).1 286 (by omega) = costTo_bd fixL (fqT toks).1 286 (by omega)) := rfl
  have b1 := costTo_bd fixL (fqT toks).1 286 (by omega)
  have b2 := costTo_bd fixD (fqT toks).2 30 (by omega)
  have b3 := exs_le toks
  have hcf : costF toks = 3 + costTo fixL (fqT toks).1 286 + costTo fixD (fqT toks).2 30 + ((exs toks : Nat) : Int) := rfl
  obtain ⟨c1, hc1⟩ : ∃ c, costTo fixL (fqT toks).1 286 = c := ⟨_, rfl⟩
  obtain ⟨c2, hc2⟩ : ∃ c, costTo fixD (fqT toks).2 30 = c := ⟨_, rfl⟩
  obtain ⟨c3, hc3⟩ : ∃ c, exs toks = c := ⟨_, rfl⟩
  rw [hc1, hc2, hc3] at hcf
  rw [hc1] at b1
  rw [hc2] at b2
  rw [hc3] at b3
  have hcb : 0 ≤ c1 ∧ c1 ≤ 400000000000000 ∧ 0 ≤ c2 ∧ c2 ≤ 400000000000000 ∧ (0 : Int) ≤ (c3 : Int) ∧ (c3 : Int) ≤ 400000000000000 := by omega
  have HCF := Lib.hid hcf
  have HC := Lib.hid (⟨hc1, hc2, hc3⟩ : _ ∧ _ ∧ _)
  clear hT hlit hm hm1 hm2 hnl b1 b2 b3 hcf hc1 hc2 hc3 HB
  go_enter Try.func58, Try.ntmps58
  go_wp2_with fail
  refine HM.out.mono ?_
  rintro e w1 ⟨rfl, hb1⟩
  rw [HF.out]
  have HFQ := Lib.hid (freqs_any w1 At nt ct toks ((HH.out.1.below hb1).more hb1.size) (by have := HH.out; omega) fun t ht => ⟨HH.out.2.2.2.1 t ht, HH.out.2.1 t ht⟩)
  have HB1 := Lib.hid hb1
  clear hb1
  go_wp2_with fail
  refine HFQ.out.mono ?_
  rintro e w2 ⟨g1, g2, rfl, hM⟩
  have HFX := Lib.hid (fixed_any w2)
  have HM2 := Lib.hid hM
  clear hM
  go_wp2_with fail
  refine HFX.out.mono ?_
  rintro e w3 ⟨Af, cf, Ad, cd, rfl, ho1, ho2, hb3⟩
  have hf1 := (HM2.out.lit.keeps hb3).rd
  have hf2 := (HM2.out.dist.keeps hb3).rd
  have HK1 := Lib.hid (cost_bel Af (some ⟨g1, 0, none⟩) 288 286 cf 286 _ _ w3 ho1.rd hf1 (by omega) (by omega))
  rw [show min 288 286 = 286 from rfl, HC.out.1] at HK1
  have H3 := Lib.hid (⟨ho2.rd, hf2, HB1.out.trans (HM2.out.bel.mono HB1.out.size |>.trans (hb3.mono (Nat.le_trans HB1.out.size HM2.out.bel.size)))⟩ : _ ∧ _ ∧ _)
  clear ho1 ho2 hb3 hf1 hf2
  go_wp2_with fail
  refine HK1.out.mono ?_
  rintro e w4 ⟨rfl, hb4⟩
  have HK2 := Lib.hid (cost_bel Ad (some ⟨g2, 0, none⟩) 32 30 cd 30 _ _ w4 ((H3.out.1.below hb4).more hb4.size) ((H3.out.2.1.below hb4).more hb4.size) (by omega) (by omega))
  rw [show min 32 30 = 30 from rfl, HC.out.2.1] at HK2
  have H4 := Lib.hid (H3.out.2.2.trans (hb4.mono H3.out.2.2.size))
  clear hb4
  go_wp2_with fail
  refine HK2.out.mono ?_
  rintro e w5 ⟨rfl, hb5⟩
  have h5 := H4.out.trans (hb5.mono H4.out.size)
  have HEX := Lib.hid (extras_any w5 At nt ct toks ((HH.out.1.below h5).more h5.size) (by have := HH.out; omega))
  rw [HC.out.2.2] at HEX
  have H5 := Lib.hid h5
  clear hb5 h5
  go_wp2_with fail
  refine HEX.out.mono ?_
  rintro e w6 ⟨rfl, hb6⟩
  have H6 := Lib.hid (H5.out.trans (hb6.mono H5.out.size))
  clear hb6
  go_wp2_with fail
  go_ret
  exact ⟨ret_int (by rw [HCF.out]), H6.out⟩
inductive CoI (Al Ad : Option Addr) (nl nd cl cd g1 g2 : Nat) (c1 c2 : Int) : Option Addr → Nat → Nat → Option Addr → Nat → Nat → Int → Prop
  | lit : CoI Al Ad nl nd cl cd g1 g2 c1 c2 Al nl cl (some ⟨g1, 0, none⟩) 286 286 c1
  | dist : CoI Al Ad nl nd cl cd g1 g2 c1 c2 Ad nd cd (some ⟨g2, 0, none⟩) 30 30 c2
set_option maxRecDepth 100000 in
set_option maxHeartbeats 8000000 in
theorem bcost_dyn (w : World) (At : Option Addr) (nt ct : Nat) (toks : List Tok) (hT : RdT w w.heap.size At nt toks) (hlit : ∀ t ∈ toks, 0 ≤ t.lit ∧ t.lit < 256) (C : Option Addr) (m cr : Nat) (hm : bkMay 2 toks m = true) :
    Calls Try.prog 58 #[.int .i64 2, .slice At nt ct, .slice C m cr] w fun e w' => e = .returned (.int .i64 (costD toks)) ∧ Below w.heap.size w w' := by
  obtain ⟨hm1, hm2⟩ := may_two hm
  have hnl := hT.1
  have HM := Lib.hid (may_any w 2 At nt ct toks hT (by omega) C m cr)
  have HF := Lib.hid hm
  have HH := Lib.hid (⟨hT, hlit, hm1, hm2, hnl⟩ : _ ∧ _ ∧ _ ∧ _ ∧ _)
  clear hT hlit hm hm1 hm2 hnl
  go_enter Try.func58, Try.ntmps58
  go_wp2_with fail
  refine HM.out.mono ?_
  rintro e w1 ⟨rfl, hb1⟩
  rw [HF.out]
  have HFQ := Lib.hid (freqs_any w1 At nt ct toks ((HH.out.1.below hb1).more hb1.size) (by have := HH.out; omega) fun t ht => ⟨HH.out.2.2.2.1 t ht, HH.out.2.1 t ht⟩)
  have HB1 := Lib.hid hb1
  clear hb1
  go_wp2_with fail
  refine HFQ.out.mono ?_
  rintro e w2 ⟨g1, g2, rfl, hM⟩
  have HB2 := Lib.hid (HB1.out.trans (hM.bel.mono HB1.out.size))
  have HPL := Lib.hid (planned_any w2 At nt ct toks ((HH.out.1.below HB2.out).more HB2.out.size) HH.out.2.2.1 fun t ht => ⟨HH.out.2.2.2.1 t ht, HH.out.2.1 t ht⟩)
  have HM2 := Lib.hid hM
  clear hM
  go_wp2_with fail
  refine HPL.out.mono ?_
  rintro e w4 hpp
  obtain ⟨vv, rfl⟩ : ∃ v, e = .returned v := by obtain ⟨Al, cl, Ad, cd, Ah, ch, Ax, cx, e1, _⟩ := hpp; exact ⟨_, e1⟩
  obtain ⟨Al, Ad, Ah, Ax, cl, cd, ch, cx, rfl, hb4, hpb⟩ := PlB.new hpp
  clear hpp
  have hbA : Below w2.heap.size w2 (w4.alloc (.cells #[.slice Al (litN toks) cl, .slice Ad (dstN toks) cd, .slice Ah 19 ch, .slice Ax (plRuns toks).length cx, .int .i64 ((plN toks : Nat) : Int)] 92)) := hb4.alloc hb4.size _
  have hwb2 : Below w.heap.size w (w4.alloc (.cells #[.slice Al (litN toks) cl, .slice Ad (dstN toks) cd, .slice Ah 19 ch, .slice Ax (plRuns toks).length cx, .int .i64 ((plN toks : Nat) : Int)] 92)) := HB2.out.trans (hbA.mono HB2.out.size)
  have hf1 := (HM2.out.lit.keeps hbA).rd
  have hf2 := (HM2.out.dist.keeps hbA).rd
  have H4 := Lib.hid (⟨hpb, hwb2, hf1, hf2⟩ : _ ∧ _ ∧ _ ∧ _)
  clear hb4 hpb hbA hwb2 hf1 hf2
  go_upto_region 10 with fail
  obtain ⟨wb, hwb⟩ : ∃ W, w4.alloc (.cells #[.slice Al (litN toks) cl, .slice Ad (dstN toks) cd, .slice Ah 19 ch, .slice Ax (plRuns toks).length cx, .int .i64 ((plN toks : Nat) : Int)] 92) = W := ⟨_, rfl⟩
  have hsz4 : w4.heap.size + 1 = wb.heap.size := by rw [← hwb]; simp
  rw [hwb] at H4
  rw [hwb]
  obtain ⟨G, hG⟩ : ∃ G, w4.heap.size = G := ⟨_, rfl⟩
  rw [hG] at H4 hsz4
  rw [hG]
  rw [hsz4] at H4
  clear hwb hsz4 hG
  have hbl := litN_bd toks
  have hbd := dstN_bd toks
  have b1 := costTo_bd (plLit toks) (fqT toks).1 (litN toks) (by omega)
  have b2 := costTo_bd (plDist toks) (fqT toks).2 (dstN toks) (by omega)
  have b3 := exs_le toks
  have b4 := rnsCost_bd (head_in toks) (plRuns toks) (plRuns_ok HH.out.2.2.1)
  have b5 := plRuns_len toks
  have b6 := plN_bd toks
  have hcd : costD toks = 3 + szP toks + costTo (plLit toks) (fqT toks).1 (litN toks) + costTo (plDist toks) (fqT toks).2 (dstN toks) + ((exs toks : Nat) : Int) := rfl
  have hsb : 0 ≤ szP toks ∧ szP toks ≤ 10000 := by unfold szP; omega
  have hSZ : ∀ W, Below wb.heap.size wb W → Calls Try.prog 74 #[.pointer (some ⟨G, 0, none⟩)] W fun e w' => e = .returned (.int .i64 (szP toks)) ∧ Below wb.heap.size wb w' := fun W h =>
    (size_any W G w2.heap.size wb.heap.size toks Al Ad Ah Ax cl cd ch cx (H4.out.1.below h (Nat.le_refl _)) HH.out.2.2.1 h.size).mono fun e w' q => ⟨q.1, h.trans (q.2.mono h.size)⟩
  have hCO : ∀ W, Below wb.heap.size wb W → ∀ A n c F k d v, CoI Al Ad (litN toks) (dstN toks) cl cd g1 g2 (costTo (plLit toks) (fqT toks).1 (litN toks)) (costTo (plDist toks) (fqT toks).2 (dstN toks)) A n c F k d v → Calls Try.prog 72 #[.slice A n c, .slice F k d] W fun e w' => e = .returned (.int .i64 v) ∧ Below wb.heap.size wb w' := fun W h A n c F k d v hc => by
    cases hc with
    | lit =>
      have := cost_bel Al (some ⟨g1, 0, none⟩) (litN toks) 286 cl 286 _ _ W ((H4.out.1.lit.below h).more h.size) ((H4.out.2.2.1.below h).more h.size) (by omega) (by omega)
      rw [show min (litN toks) 286 = litN toks by omega] at this
      exact this.mono fun e w' q => ⟨q.1, h.trans (q.2.mono h.size)⟩
    | dist =>
      have := cost_bel Ad (some ⟨g2, 0, none⟩) (dstN toks) 30 cd 30 _ _ W ((H4.out.1.dist.below h).more h.size) ((H4.out.2.2.2.below h).more h.size) (by omega) (by omega)
      rw [show min (dstN toks) 30 = dstN toks by omega] at this
      exact this.mono fun e w' q => ⟨q.1, h.trans (q.2.mono h.size)⟩
  have hEX : ∀ W, Below wb.heap.size wb W → Calls Try.prog 73 #[.slice At nt ct] W fun e w' => e = .returned (.int .i64 ((exs toks : Nat) : Int)) ∧ Below wb.heap.size wb w' := fun W h =>
    (extras_any W At nt ct toks ((HH.out.1.below (H4.out.2.1.trans (h.mono H4.out.2.1.size))).more (Nat.le_trans H4.out.2.1.size h.size)) (by have := HH.out; omega)).mono fun e w' q => ⟨q.1, h.trans (q.2.mono h.size)⟩
  obtain ⟨c1, hc1⟩ : ∃ c, costTo (plLit toks) (fqT toks).1 (litN toks) = c := ⟨_, rfl⟩
  obtain ⟨c2, hc2⟩ : ∃ c, costTo (plDist toks) (fqT toks).2 (dstN toks) = c := ⟨_, rfl⟩
  obtain ⟨c3, hc3⟩ : ∃ c, exs toks = c := ⟨_, rfl⟩
  obtain ⟨c4, hc4⟩ : ∃ c, szP toks = c := ⟨_, rfl⟩
  obtain ⟨nl, hnl⟩ : ∃ n, litN toks = n := ⟨_, rfl⟩
  obtain ⟨nd, hnd⟩ : ∃ n, dstN toks = n := ⟨_, rfl⟩
  rw [hc1, hc2, hc3, hc4] at hcd
  rw [hc1, hnl] at b1
  rw [hc2, hnd] at b2
  rw [hc3] at b3
  rw [hc4] at hsb
  rw [hc1, hc2, hnl, hnd] at hCO
  rw [hc3] at hEX
  rw [hc4] at hSZ
  obtain ⟨k0, k1, -⟩ := H4.out.1.cells
  rw [hnl] at k0
  rw [hnd] at k1
  have hcb : 0 ≤ c1 ∧ c1 ≤ 400000000000000 ∧ 0 ≤ c2 ∧ c2 ≤ 400000000000000 ∧ (0 : Int) ≤ (c3 : Int) ∧ (c3 : Int) ≤ 400000000000000 ∧ 0 ≤ c4 ∧ c4 ≤ 10000 := by have := HH.out.2.2.1; omega
  have HK : Hid (∀ W, Below wb.heap.size wb W → W.cell? ⟨G, 0, none⟩ = some (.slice Al nl cl) ∧ W.cell? ⟨G, 1, none⟩ = some (.slice Ad nd cd)) := fun W h => by
    obtain ⟨q0, q1, -⟩ := (H4.out.1.below h (Nat.le_refl _)).cells
    rw [hnl] at q0
    rw [hnd] at q1
    exact ⟨q0, q1⟩
  have HWR : Hid (IntKind.i64.wrap (IntKind.i64.wrap (IntKind.i64.wrap (IntKind.i64.wrap (3 + c4) + c1) + c2) + (c3 : Int)) = 3 + c4 + c1 + c2 + (c3 : Int)) := by
    show _ = _
    rw [IntWalk.i64_in (3 + c4) (by omega), IntWalk.i64_in (3 + c4 + c1) (by omega), IntWalk.i64_in (3 + c4 + c1 + c2) (by omega), IntWalk.i64_in (3 + c4 + c1 + c2 + (c3 : Int)) (by omega)]
  have HSZ := Lib.hid hSZ
  have HCO := Lib.hid hCO
  have HEX := Lib.hid hEX
  have HCD := Lib.hid hcd
  have HWB := Lib.hid H4.out.2.1
  have HB0 := Lib.hid (Below.refl wb.heap.size wb)
  clear hbl hbd b1 b2 b3 b4 b5 b6 hcd hsb hSZ hCO hEX hc1 hc2 hc3 hc4 hnl hnd H4 HPL HFQ HM
  go_cut [6] (fun v6 wx => v6 = .int .i64 (costD toks) ∧ Below w.heap.size w wx)
  case first =>
    go_region_law
      (first
        | (have _g := hb8
           go_simp
           go_at_call 73
           refine (HEX.out _ hb8).mono ?_
           rintro e w9 ⟨rfl, hb9⟩)
        | (have _g := hb7
           go_simp
           go_at_call 72
           refine (HCO.out _ hb7 _ _ _ _ _ _ _ (by constructor)).mono ?_
           rintro e w8 ⟨rfl, hb8⟩)
        | (have _g := hb6
           go_simp
           go_at_call 72
           refine (HCO.out _ hb6 _ _ _ _ _ _ _ (by constructor)).mono ?_
           rintro e w7 ⟨rfl, hb7⟩
           have q1 := (HK.out _ hb7).2)
        | (go_simp
           go_at_call 74
           refine (HSZ.out _ (by exact HB0.out.drew)).mono ?_
           rintro e w6 ⟨rfl, hb6⟩
           have q0 := (HK.out _ hb6).1
           have q1 := (HK.out _ hb6).2))
    all_goals
      have HB9 := Lib.hid hb9
      clear hb9 hb8 hb7 hb6
      go_wp2_with fail
      go_meet
      exact ⟨congrArg (Value.int .i64) (HWR.out.trans HCD.out.symm), HWB.out.trans (HB9.out.mono HWB.out.size)⟩
  case rest =>
    obtain ⟨rfl, hb⟩ := hcut
    have HB := Lib.hid hb
    clear hb
    go_wp2_with fail
    go_ret
    exact ⟨rfl, HB.out⟩
theorem bcost_any (w : World) (kind : Int) (At : Option Addr) (nt ct : Nat) (toks : List Tok) (hT : RdT w w.heap.size At nt toks) (hnt : (nt : Int) ≤ 4611686018427387904) (hlit : ∀ t ∈ toks, 0 ≤ t.lit ∧ t.lit < 256) (C : Option Addr) (m cr : Nat) :
    Calls Try.prog 58 #[.int .i64 kind, .slice At nt ct, .slice C m cr] w fun e w' => e = .returned (.int .i64 (if bkMay kind toks m = true then costB kind toks m else -1)) ∧ Below w.heap.size w w' := by
  by_cases hm : bkMay kind toks m = true
  · rw [if_pos hm]
    have hk : kind = 0 ∨ kind = 1 ∨ kind = 2 := by
      unfold bkMay at hm
      by_cases h0 : kind = 0
      · exact .inl h0
      · rw [if_neg h0] at hm
        by_cases h : ¬ (kind = 1 ∨ kind = 2) ∨ 1048576 ≤ toks.length
        · rw [if_pos h] at hm; exact absurd hm (by decide)
        · omega
    unfold costB
    rcases hk with rfl | rfl | rfl
    · rw [if_pos rfl]
      refine bcost_stored w At nt ct toks hT hnt C m cr ?_
      unfold bkMay at hm
      rw [if_pos rfl] at hm
      exact of_decide_eq_true hm
    · rw [if_neg (by decide), if_pos rfl]
      exact bcost_fixed w At nt ct toks hT hlit C m cr hm
    · rw [if_neg (by decide), if_neg (by decide)]
      exact bcost_dyn w At nt ct toks hT hlit C m cr hm
  · rw [if_neg hm]
    exact bcost_no w kind At nt ct toks hT hnt C m cr (by simpa using hm)
end Go.Proofs.Ytlgkiookobedcaa
