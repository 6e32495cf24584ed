/-
  The walk of the law BlockCodes.
-/
import Derived.Test.YtckhkkjdibcclaaBLw
import Derived.Test.YtckhkkjdibcclaaCdsP
import Derived.Test.YtckhkkjdibcclaaLeaW
import Derived.Test.YtckhkkjdibcclaaPk9
import Derived.Test.YtckhkkjdibcclaaPk10
import Derived.Test.YtckhkkjdibcclaaPk13
namespace Go.Proofs.Ytckhkkjdibcclaa
open Go.RowKit
set_option linter.unusedVariables false
set_option maxRecDepth 100000 in
set_option maxHeartbeats 8000000 in
theorem bcodes_law (At : Option Addr) (nt ct : Nat) (toks : List Tok) (w : World) (hTT : RdT w w.heap.size At nt toks ∧ nt ≤ maxLen ∧ ∀ t ∈ toks, 0 ≤ t.lit ∧ t.lit < 256) :
    Calls Try.prog 3 #[.slice At nt ct] w fun e w' => e = .returned (.bool true) ∧ Below w.heap.size w w' := by
  obtain ⟨hT, hnt, hlit⟩ := hTT
  have hnI : (nt : Int) ≤ 9223372036854775807 ∧ (0 : Int) ≤ nt := by unfold maxLen at hnt; omega
  have HH := Lib.hid (⟨hT, hlit, hT.1⟩ : _ ∧ _ ∧ _)
  clear hT hlit hnt
  by_cases hbig : 400 < nt
  · have hbigI : (400 : Int) < (nt : Int) := by omega
    go_enter Try.func3, Try.ntmps3
    go_wp2_with fail
    refine (answers10_any w).mono ?_
    rintro e w1 ⟨rfl, hb⟩
    go_wp2_with fail
    go_ret
    exact ⟨rfl, hb⟩
  have hbigI : decide ((400 : Int) < (nt : Int)) = false := by simp; omega
  have HSN := Lib.hid (sound10_any w At nt ct toks HH.out.1 (by omega))
  by_cases he : (expand [] toks).1 = 0
  · have hd : Hid (decide ((expand [] toks).1 = 0) = true) := decide_eq_true he
    have HSO := Lib.hid (expand_sound he)
    clear he
    obtain ⟨i0, hi, hz0, hz1, hz2⟩ := info_parts frq_info
    have hmk1 : ∀ W, (Instr.makeSlice 25 (.int .i64 286) (.int .i64 286)).run Try.prog W = .ok (.slice (some ⟨W.heap.size, 0, none⟩) 286 286) (W.alloc (.cells (zrow 286 (.int .i64 0)) 3)) := fun W => run_make_zrow (P := Try.prog) 25 3 i0 (.int .i64 0) Try.underlying25 hi hz0 hz1 rfl .i64 .i64 286 (by rw [hz2]; omega) (by omega) W
    have hmk2 : ∀ W, (Instr.makeSlice 25 (.int .i64 30) (.int .i64 30)).run Try.prog W = .ok (.slice (some ⟨W.heap.size, 0, none⟩) 30 30) (W.alloc (.cells (zrow 30 (.int .i64 0)) 3)) := fun W => run_make_zrow (P := Try.prog) 25 3 i0 (.int .i64 0) Try.underlying25 hi hz0 hz1 rfl .i64 .i64 30 (by rw [hz2]; omega) (by omega) W
    clear hi hz0 hz1 hz2
    go_enter Try.func3, Try.ntmps3
    go_wp2_with fail
    refine HSN.out.mono ?_
    rintro e w1 ⟨rfl, hb1⟩
    rw [hd.out]
    have HB1 := Lib.hid hb1
    clear hb1
    go_upto_region 5 with fail
    obtain ⟨w2, hw2⟩ : ∃ W, (w1.alloc (.cells (zrow 286 (.int .i64 0)) 3)).alloc (.cells (zrow 30 (.int .i64 0)) 3) = W := ⟨_, rfl⟩
    have hM0 := FqM.new1 w1
    rw [hw2] at hM0
    rw [hw2]
    obtain ⟨g1, hg1⟩ : ∃ g, w1.heap.size = g := ⟨_, rfl⟩
    obtain ⟨g2, hg2⟩ : ∃ g, g1 + 1 = g := ⟨_, rfl⟩
    rw [hg1, hg2] at hM0
    rw [hg1, hg2]
    clear hw2 hg1 hg2 hmk1 hmk2
    obtain ⟨c256, z256⟩ := hM0.lit.head (i := 256) (by omega)
    have HM2 : Hid (∀ n : Nat, n = 256 → FqM w1 (w2.setCell ⟨g1, n, none⟩ (.int .i64 1)) g1 g2 (fqT [])) := fun n hn => by subst hn; exact hM0.set1 (by omega) 1
    clear hM0
    go_wp2_with fail
    have HS := Lib.hid (HM2.out 256 rfl)
    clear c256 z256 HM2
    go_loopg [5, 6, 7] nt (fun (gk : Nat) (v5 v6 v7 : Value) wx => ∃ k K Fr : Nat, v5 = .int .i64 K ∧ v6 = .int .i64 Fr ∧ v7 = .int .i64 k ∧ k ≤ nt ∧ Hid (K = (posI (fqT (toks.take k)).1 286).length ∧ Fr = (posI (fqT (toks.take k)).2 30).length) ∧ Hid (FqM w1 wx g1 g2 (fqT (toks.take k))) ∧ Hid (gk = nt - k))
    case atStart => exact ⟨0, 1, 0, rfl, rfl, rfl, Nat.zero_le _, by show _ ∧ _; rw [List.take_zero]; decide +kernel, HS.out, rfl⟩
    case round =>
      clear HS
      obtain ⟨k, K, Fr, rfl, rfl, rfl, hk, hKF, hs, hg⟩ := hrel
      have hKb : (0 : Int) ≤ (K : Int) ∧ (K : Int) ≤ 286 ∧ (0 : Int) ≤ (Fr : Int) ∧ (Fr : Int) ≤ 30 := by
        have h1 := pos_len (fqT (toks.take k)).1 286
        have h2 := pos_len (fqT (toks.take k)).2 30
        have := hKF.out
        omega
      by_cases hlt : k < nt
      · have hkI : (k : Int) < (nt : Int) ∧ (0 : Int) ≤ (k : Int) := by omega
        have hbW := HB1.out.trans (hs.out.bel.mono HB1.out.size)
        obtain ⟨ad, hA, hbl, hcs⟩ := (HH.out.1.below hbW).2 (by omega)
        have hbl9 : ad.block < w1.heap.size := Nat.lt_of_lt_of_le hbl HB1.out.size
        obtain ⟨a0, a1, a2⟩ := hcs k hlt
        rw [addr_next _ _ _ (by omega)] at a1 a2
        have hnx := fqT_take (l := toks) (k := k) (by rw [← HH.out.2.2]; exact hlt)
        have hsd : soundT (tokAt toks k) ∧ (0 ≤ (tokAt toks k).lit ∧ (tokAt toks k).lit < 256) := ⟨HSO.out _ (HH.out.1.sound_at hlt), HH.out.2.1 _ (HH.out.1.sound_at hlt)⟩
        have hbd := fq_bd (toks.take k)
        have hln := fq_len (toks.take k)
        have hle3 : (toks.take k).length ≤ k := by rw [List.length_take]; exact Nat.min_le_left _ _
        obtain ⟨P, hP⟩ : ∃ P, fqT (toks.take k) = P := ⟨_, rfl⟩
        rw [hP] at hs hnx hbd hln hKF
        obtain ⟨⟨T0, N, D⟩, ht⟩ : ∃ t : Tok, tokAt toks k = t := ⟨_, rfl⟩
        rw [ht] at a0 a1 a2 hnx hsd
        obtain ⟨sl, rfl⟩ : ∃ sl : Nat, T0 = (sl : Int) := ⟨T0.toNat, by have := hsd.2.1; have h : 0 ≤ T0 := this; omega⟩
        replace a0 : wr.cell? (ad.add (k * 3)) = some (.int .u8 (sl : Int)) := a0
        replace a1 : wr.cell? { block := (ad.add (k * 3)).block, off := (ad.add (k * 3)).off + 1 } = some (.int .i64 N) := a1
        replace a2 : wr.cell? { block := (ad.add (k * 3)).block, off := (ad.add (k * 3)).off + 2 } = some (.int .i64 D) := a2
        have hslb : (0 : Int) ≤ (sl : Int) ∧ (sl : Int) < 256 := hsd.2
        have HLT := Lib.hid hlt
        have hbN := Lib.hid (show ∀ i, (0 ≤ ix P.1 i ∧ ix P.1 i ≤ 4000000000001) ∧ 0 ≤ ix P.2 i ∧ ix P.2 i ≤ 4000000000001 from fun i => by have := hbd i; omega)
        have HNX := Lib.hid hnx
        have HSD := Lib.hid hsd
        have HLN := Lib.hid hln
        subst hA
        clear hbl hcs ht hlt hnx hsd hbd hln hle3 hP hbW
        by_cases hN0 : N = 0
        · subst hN0
          obtain ⟨cl, zl⟩ := hs.out.lit.head (i := sl) (by omega)
          have hbv := (hbN.out sl).1
          have hpk := pos_bump (f := P.1) (s := sl) (by rw [HLN.out.1]; omega) hbv.1 286
          have hfq : fqT (toks.take (k + 1)) = (bump P.1 sl, P.2) := by rw [HNX.out]; unfold fqS; rw [if_pos rfl]; rfl
          obtain ⟨V, hV⟩ : ∃ V, ix P.1 sl = V := ⟨_, rfl⟩
          rw [hV] at cl hbv hpk
          have hfin := Lib.hid (show FqM w1 (wr.setCell ⟨g1, sl, none⟩ (.int .i64 (V + 1))) g1 g2 (fqT (toks.take (k + 1))) from by
            rw [hfq]
            unfold bump
            rw [hV]
            exact hs.out.set1 (by omega) _)
          have HPK : Hid ((∀ x : Nat, x = (if V = 0 then 1 else 0) → K + x = (posI (fqT (toks.take (k + 1))).1 286).length) ∧ Fr = (posI (fqT (toks.take (k + 1))).2 30).length) := by
            show _ ∧ _
            rw [hfq]
            refine ⟨fun x hx => ?_, hKF.out.2⟩
            have h1 := hKF.out.1
            show _ = (posI (bump P.1 sl) 286).length
            rw [hpk, hx, ← h1]
            by_cases hv : V = 0
            · rw [if_pos hv, if_pos ⟨by omega, hv⟩]
            · rw [if_neg hv, if_neg (fun h => hv h.2)]
          clear hV hpk hfq HNX HSD HLN a2 hKF
          by_cases hv0 : V = 0
          · have HPK1 := Lib.hid (HPK.out.1 1 (by rw [if_pos hv0]))
            have HPK2 := Lib.hid HPK.out.2
            subst hv0
            clear HPK
            go_wp2_with fail
            go_roundg (nt - (k + 1))
            case measure => have := hg.out; have := HLT.out; omega
            case rel => exact ⟨k + 1, K + 1, Fr, by go_num, rfl, by go_num, HLT.out, ⟨HPK1.out, HPK2.out⟩, hfin, rfl⟩
          · have HPK1 := Lib.hid (HPK.out.1 0 (by rw [if_neg hv0]))
            have HPK2 := Lib.hid HPK.out.2
            have hv0b : (V == 0) = false := by simpa using hv0
            clear HPK
            go_wp2_with fail
            go_roundg (nt - (k + 1))
            case measure => have := hg.out; have := HLT.out; omega
            case rel => exact ⟨k + 1, K, Fr, rfl, rfl, by go_num, HLT.out, ⟨HPK1.out, HPK2.out⟩, hfin, rfl⟩
        · obtain ⟨⟨n3, n258⟩, ⟨d1, d2⟩, j28, q29⟩ := tok_bd HSD.out.1 hN0
          replace n3 : 3 ≤ N := n3
          replace n258 : N ≤ 258 := n258
          replace d1 : 1 ≤ D := d1
          replace d2 : D ≤ 32768 := d2
          have hJ29 : lenJ N ≤ 28 := j28
          have hQ30 : distJ D ≤ 29 := q29
          have hcl := fun v (h : CodeIs lB lE 3 258 257 28 N v) => code_len h ⟨n3, n258⟩
          have hcdv := fun v (h : CodeIs dB dE 1 32768 0 29 D v) => code_dist h ⟨d1, d2⟩
          have hfq : fqS P ⟨(sl : Int), N, D⟩ = (bump P.1 (257 + lenJ N), bump P.2 (distJ D)) := by unfold fqS; rw [if_neg hN0]
          rw [hfq] at HNX
          obtain ⟨j, hj⟩ : ∃ j, lenJ N = j := ⟨_, rfl⟩
          obtain ⟨q, hq⟩ : ∃ q, distJ D = q := ⟨_, rfl⟩
          rw [hj] at hcl hJ29 HNX
          rw [hq] at hcdv hQ30 HNX
          obtain ⟨E1, he1⟩ : ∃ E : Int, ((lE j : Nat) : Int) = E := ⟨_, rfl⟩
          obtain ⟨E2, he2⟩ : ∃ E : Int, ((dE q : Nat) : Int) = E := ⟨_, rfl⟩
          obtain ⟨V1, hv1⟩ : ∃ V, N - ((lB j : Nat) : Int) = V := ⟨_, rfl⟩
          obtain ⟨V2, hv2⟩ : ∃ V, D - ((dB q : Nat) : Int) = V := ⟨_, rfl⟩
          obtain ⟨S1, hS1⟩ : ∃ S, 257 + j = S := ⟨_, rfl⟩
          rw [hS1] at HNX
          have hS1I : (257 : Int) + (j : Int) = (S1 : Int) := by omega
          have HCL : Hid (∀ v, CodeIs lB lE 3 258 257 28 N v → v = .tuple #[.int .i64 (S1 : Int), .int .i64 E1, .int .i64 V1]) := fun v h => by have := hcl v h; rw [this, hv1, he1, hS1I]
          have HCD : Hid (∀ v, CodeIs dB dE 1 32768 0 29 D v → v = .tuple #[.int .i64 (q : Int), .int .i64 E2, .int .i64 V2]) := fun v h => by have := hcdv v h; rw [this, hv2, he2]
          have HC1 := Lib.hid (rlenCode_any N wr)
          have HC2 := Lib.hid (rdistCode_any D wr)
          have hN0' : (0 : Int) < N := by omega
          have hSq : (S1 : Int) < 286 ∧ (0 : Int) ≤ (S1 : Int) ∧ (q : Int) < 30 ∧ (0 : Int) ≤ (q : Int) ∧ S1 < 286 ∧ q < 30 := by omega
          have hbS := (hbN.out S1).1
          have hbQ := (hbN.out q).2
          have hset2 := hs.out.set2 (i := q) (by omega) (ix P.2 q + 1)
          have hset1 := hset2.set1 (i := S1) (by omega) (ix P.1 S1 + 1)
          obtain ⟨cq, zq⟩ := hs.out.dist.head (i := q) (by omega)
          obtain ⟨cl, zl⟩ := hset2.lit.head (i := S1) (by omega)
          have e1 : (P.1, P.2.set q (ix P.2 q + 1)).1 = P.1 := rfl
          rw [e1] at cl
          have hpe : fqT (toks.take (k + 1)) = ((P.1.set S1 (ix P.1 S1 + 1)), (P.2.set q (ix P.2 q + 1))) := by rw [HNX.out]; rfl
          have hfin := hset1
          change FqM w1 _ g1 g2 ((P.1.set S1 (ix P.1 S1 + 1)), (P.2.set q (ix P.2 q + 1))) at hfin
          rw [← hpe] at hfin
          have hpk1 := pos_bump (f := P.1) (s := S1) (by rw [HLN.out.1]; omega) hbS.1 286
          have hpk2 := pos_bump (f := P.2) (s := q) (by rw [HLN.out.2]; omega) hbQ.1 30
          have HPK : Hid ((∀ x : Nat, x = (if ix P.1 S1 = 0 then 1 else 0) → K + x = (posI (fqT (toks.take (k + 1))).1 286).length) ∧ (∀ x : Nat, x = (if ix P.2 q = 0 then 1 else 0) → Fr + x = (posI (fqT (toks.take (k + 1))).2 30).length)) := by
            show _ ∧ _
            rw [HNX.out]
            refine ⟨fun x hx => ?_, fun x hx => ?_⟩
            · have h1 := hKF.out.1
              show _ = (posI (bump P.1 S1) 286).length
              rw [hpk1, hx, ← h1]
              by_cases hv : ix P.1 S1 = 0
              · rw [if_pos hv, if_pos ⟨by omega, hv⟩]
              · rw [if_neg hv, if_neg (fun h => hv h.2)]
            · have h1 := hKF.out.2
              show _ = (posI (bump P.2 q) 30).length
              rw [hpk2, hx, ← h1]
              by_cases hv : ix P.2 q = 0
              · rw [if_pos hv, if_pos ⟨by omega, hv⟩]
              · rw [if_neg hv, if_neg (fun h => hv h.2)]
          obtain ⟨X1, hX1⟩ : ∃ X, ix P.1 S1 = X := ⟨_, rfl⟩
          obtain ⟨X2, hX2⟩ : ∃ X, ix P.2 q = X := ⟨_, rfl⟩
          rw [hX1] at hfin hbS cl HPK
          rw [hX2] at hfin hbQ cq cl zl HPK
          have HFIN := Lib.hid hfin
          have HCT := Lib.hid (⟨cq, zq, cl, zl⟩ : _ ∧ _ ∧ _ ∧ _)
          clear n3 n258 d1 d2 j28 q29 hJ29 hQ30 hcl hcdv hfq hj hq he1 he2 hv1 hv2 hS1 hS1I hset1 hset2 hX1 hX2 hfin cq zq cl zl e1 hpe hpk1 hpk2 hN0 HSD HNX HLN hKF
          by_cases hq0 : X2 = 0
          · have HPK2 := Lib.hid (HPK.out.2 1 (by rw [if_pos hq0]))
            subst hq0
            rw [show (0 + 1 : Int) = 1 from rfl] at HCT HFIN
            by_cases hl0 : X1 = 0
            · have HPK1 := Lib.hid (HPK.out.1 1 (by rw [if_pos hl0]))
              subst hl0
              clear HPK
              go_wp2_with fail
              refine HC1.out.mono ?_
              rintro e w5 ⟨⟨v, rfl, hv⟩, rfl⟩
              rw [HCL.out v hv]
              clear hv
              go_wp2_with fail
              refine HC2.out.mono ?_
              rintro e w6 ⟨⟨v, rfl, hv⟩, rfl⟩
              rw [HCD.out v hv]
              clear hv
              obtain ⟨cq, zq, cl, zl⟩ := HCT.out
              go_wp2_with fail
              go_roundg (nt - (k + 1))
              case measure => have := hg.out; have := HLT.out; omega
              case rel => exact ⟨k + 1, K + 1, Fr + 1, by go_num, by go_num, by go_num, HLT.out, ⟨HPK1.out, HPK2.out⟩, HFIN.out, rfl⟩
            · have HPK1 := Lib.hid (HPK.out.1 0 (by rw [if_neg hl0]))
              have hl0b : (X1 == 0) = false := by simpa using hl0
              clear HPK
              go_wp2_with fail
              refine HC1.out.mono ?_
              rintro e w5 ⟨⟨v, rfl, hv⟩, rfl⟩
              rw [HCL.out v hv]
              clear hv
              go_wp2_with fail
              refine HC2.out.mono ?_
              rintro e w6 ⟨⟨v, rfl, hv⟩, rfl⟩
              rw [HCD.out v hv]
              clear hv
              obtain ⟨cq, zq, cl, zl⟩ := HCT.out
              go_wp2_with fail
              go_roundg (nt - (k + 1))
              case measure => have := hg.out; have := HLT.out; omega
              case rel => exact ⟨k + 1, K, Fr + 1, rfl, by go_num, by go_num, HLT.out, ⟨HPK1.out, HPK2.out⟩, HFIN.out, rfl⟩
          · have HPK2 := Lib.hid (HPK.out.2 0 (by rw [if_neg hq0]))
            have hq0b : (X2 == 0) = false := by simpa using hq0
            by_cases hl0 : X1 = 0
            · have HPK1 := Lib.hid (HPK.out.1 1 (by rw [if_pos hl0]))
              subst hl0
              clear HPK
              go_wp2_with fail
              refine HC1.out.mono ?_
              rintro e w5 ⟨⟨v, rfl, hv⟩, rfl⟩
              rw [HCL.out v hv]
              clear hv
              go_wp2_with fail
              refine HC2.out.mono ?_
              rintro e w6 ⟨⟨v, rfl, hv⟩, rfl⟩
              rw [HCD.out v hv]
              clear hv
              obtain ⟨cq, zq, cl, zl⟩ := HCT.out
              go_wp2_with fail
              go_roundg (nt - (k + 1))
              case measure => have := hg.out; have := HLT.out; omega
              case rel => exact ⟨k + 1, K + 1, Fr, by go_num, rfl, by go_num, HLT.out, ⟨HPK1.out, HPK2.out⟩, HFIN.out, rfl⟩
            · have HPK1 := Lib.hid (HPK.out.1 0 (by rw [if_neg hl0]))
              have hl0b : (X1 == 0) = false := by simpa using hl0
              clear HPK
              go_wp2_with fail
              refine HC1.out.mono ?_
              rintro e w5 ⟨⟨v, rfl, hv⟩, rfl⟩
              rw [HCL.out v hv]
              clear hv
              go_wp2_with fail
              refine HC2.out.mono ?_
              rintro e w6 ⟨⟨v, rfl, hv⟩, rfl⟩
              rw [HCD.out v hv]
              clear hv
              obtain ⟨cq, zq, cl, zl⟩ := HCT.out
              go_wp2_with fail
              go_roundg (nt - (k + 1))
              case measure => have := hg.out; have := HLT.out; omega
              case rel => exact ⟨k + 1, K, Fr, rfl, rfl, by go_num, HLT.out, ⟨HPK1.out, HPK2.out⟩, HFIN.out, rfl⟩
      · obtain rfl : k = nt := by omega
        have hkI : ¬ (k : Int) < (k : Int) := by omega
        have htk : toks.take k = toks := List.take_of_length_le (by rw [← HH.out.2.2]; exact Nat.le_refl _)
        rw [htk] at hs hKF
        have HS := Lib.hid hs.out
        have HKF := Lib.hid hKF.out
        clear hlt htk hs hKF
        have hbW := HB1.out.trans (HS.out.bel.mono HB1.out.size)
        have hlen : toks.length < 1048576 := by have := HH.out.2.2; omega
        have hmm : ∀ q : Int, q = 1 ∨ q = 2 → bkMay q toks 0 = true := fun q hq => by
          unfold bkMay
          rw [if_neg (by omega), if_neg (by omega), List.all_eq_true]
          exact fun t ht => decide_eq_true (HSO.out t ht)
        have hCO : ∀ (q : Int), q = 1 ∨ q = 2 → ∀ W, Below w.heap.size w W → Calls Try.prog 11 #[.int .i64 q, .slice At k ct, .slice none 0 0] W fun e w' => e = .returned (.int .i64 (costB q toks 0)) ∧ Below W.heap.size W w' := fun q hq W hW => by
          have h := bcost_any W q At k ct toks ((HH.out.1.below hW).more hW.size) (by omega) HH.out.2.1 none 0 0
          rw [if_pos (hmm q hq)] at h
          exact h
        have hcb2 := cost_bd (hmm 2 (.inr rfl)) HH.out.2.1
        have hcb1 := cost_bd (hmm 1 (.inl rfl)) HH.out.2.1
        have hgt : costTo (litL toks) (fqT toks).1 286 + costTo (dstL toks) (fqT toks).2 30 < costB 2 toks 0 := head_gt hlen
        have hge : 10 ≤ costB 1 toks 0 := fixed_ge hlen
        have b1 := (costTo_bd (litL toks) (fqT toks).1 286 (by omega)).1
        have b2 := (costTo_bd (dstL toks) (fqT toks).2 30 (by omega)).1
        have hK := HKF.out
        have hmv := fq_mv hlen
        have hfl := fq_len toks
        have hfin := fq_in hlen
        have hLE1 : 1 < K ∧ K ≤ 60 → ∀ W, RdI .i64 W W.heap.size (some ⟨g1, 0, none⟩) 286 (fqT toks).1 → Calls Try.prog 12 #[.slice (some ⟨g1, 0, none⟩) 286 286, .int .i64 15] W fun e w' => e = .returned (.int .i64 (costTo (litL toks) (fqT toks).1 286)) ∧ Below W.heap.size W w' := fun hk W hr => by
          have h := least_any W (some ⟨g1, 0, none⟩) 286 286 (fqT toks).1 hr 15 (by omega) (by omega) (fun i _ => hfin.1 i) (by omega)
          refine Calls.mono h fun e w' h => ?_
          obtain ⟨V, l, rfl, hb, hp, hs, hg, hl⟩ := h
          exact ⟨by rw [least_is hfl.1 hmv.1 (by omega) hp hs hg hl]; rfl, hb⟩
        have hLE2 : 1 < Fr ∧ Fr ≤ 60 → ∀ W, RdI .i64 W W.heap.size (some ⟨g2, 0, none⟩) 30 (fqT toks).2 → Calls Try.prog 12 #[.slice (some ⟨g2, 0, none⟩) 30 30, .int .i64 15] W fun e w' => e = .returned (.int .i64 (costTo (dstL toks) (fqT toks).2 30)) ∧ Below W.heap.size W w' := fun hk W hr => by
          have h := least_any W (some ⟨g2, 0, none⟩) 30 30 (fqT toks).2 hr 15 (by omega) (by omega) (fun i _ => hfin.2 i) (by omega)
          refine Calls.mono h fun e w' h => ?_
          obtain ⟨V, l, rfl, hb, hp, hs, hg, hl⟩ := h
          exact ⟨by rw [least_is hfl.2 hmv.2 (by omega) hp hs hg hl]; rfl, hb⟩
        obtain ⟨L1, hL1⟩ : ∃ c, costTo (litL toks) (fqT toks).1 286 = c := ⟨_, rfl⟩
        obtain ⟨L2, hL2⟩ : ∃ c, costTo (dstL toks) (fqT toks).2 30 = c := ⟨_, rfl⟩
        rw [hL1] at hgt b1 hLE1
        rw [hL2] at hgt b2 hLE2
        have HC2 := Lib.hid (hCO 2 (.inr rfl) wr hbW)
        have hC1 : ∀ W, Below w.heap.size w W → _ := hCO 1 (.inl rfl)
        obtain ⟨cD, hcD⟩ : ∃ c, costB 2 toks 0 = c := ⟨_, rfl⟩
        obtain ⟨cF, hcF⟩ : ∃ c, costB 1 toks 0 = c := ⟨_, rfl⟩
        rw [hcD] at HC2 hgt hcb2
        rw [hcF] at hC1 hge hcb1
        have HC1 := Lib.hid hC1
        have HLE1 := Lib.hid hLE1
        have HLE2 := Lib.hid hLE2
        have HBW := Lib.hid hbW
        have HRD := Lib.hid (⟨HS.out.lit.rd, HS.out.dist.rd⟩ : _ ∧ _)
        have HNB := Lib.hid (⟨hgt, b1, b2, hcb2⟩ : _ ∧ _ ∧ _ ∧ _)
        obtain ⟨F1, hF1⟩ : ∃ f, (fqT toks).1 = f := ⟨_, rfl⟩
        obtain ⟨F2, hF2⟩ : ∃ f, (fqT toks).2 = f := ⟨_, rfl⟩
        rw [hF1] at HLE1 HRD
        rw [hF2] at HLE2 HRD
        clear hbW hlen hmm hCO hcb2 hgt b1 b2 hK hmv hfl hfin hLE1 hLE2 hL1 hL2 hC1 hcD hcF hF1 hF2 HKF HS hKb
        go_wp2_with fail
        refine HC2.out.mono ?_
        rintro e w5 ⟨rfl, hb5⟩
        have HC15 := Lib.hid (HC1.out w5 (HBW.out.trans (hb5.mono HBW.out.size)))
        have HB5 := Lib.hid hb5
        clear hb5 HC1
        go_wp2_with fail
        refine HC15.out.mono ?_
        rintro e w6 ⟨rfl, hb6⟩
        have hb56 := HB5.out.trans (hb6.mono HB5.out.size)
        have HR6 := Lib.hid (⟨(HRD.out.1.below hb56).more hb56.size, (HRD.out.2.below hb56).more hb56.size, HBW.out.trans (hb56.mono HBW.out.size)⟩ : _ ∧ _ ∧ _)
        clear hb6 hb56 HB5 HRD HBW
        go_upto_region 23 with fail
        go_cut [103] (fun v wx => v = .bool (decide (1 < K ∧ K ≤ 60)) ∧ wx = w6)
        case first =>
          by_cases h1 : 1 < K
          · by_cases h2 : K ≤ 60
            · have h1I : (1 : Int) < (K : Int) := by omega
              have h2I : (K : Int) ≤ 60 := by omega
              have HX := Lib.hid (decide_eq_true (⟨h1, h2⟩ : 1 < K ∧ K ≤ 60))
              go_wp2_with fail
              all_goals go_meet
              all_goals exact ⟨by rw [HX.out], rfl⟩
            · have h1I : (1 : Int) < (K : Int) := by omega
              have h2I : decide ((K : Int) ≤ 60) = false := by simp; omega
              have HX := Lib.hid (decide_eq_false (show ¬ (1 < K ∧ K ≤ 60) from fun h => h2 h.2))
              go_wp2_with fail
              all_goals go_meet
              all_goals exact ⟨by rw [HX.out], rfl⟩
          · have h1I : decide ((1 : Int) < (K : Int)) = false := by simp; omega
            have HX := Lib.hid (decide_eq_false (show ¬ (1 < K ∧ K ≤ 60) from fun h => h1 h.1))
            go_wp2_with fail
            all_goals go_meet
            all_goals exact ⟨by rw [HX.out], rfl⟩
        case rest =>
        obtain ⟨rfl, hw⟩ := hcut
        obtain rfl := hw.symm
        go_upto_if 103 with fail
        go_cut [14] (fun v14 wx => ∃ V : Int, v14 = .int .i64 V ∧ Hid (0 ≤ V ∧ V ≤ L1) ∧ Hid (Below w6.heap.size w6 wx))
        case first =>
          by_cases hc : 1 < K ∧ K ≤ 60
          · have HL := Lib.hid (HLE1.out hc w6 HR6.out.1)
            rw [decide_eq_true hc]
            clear hc
            go_wp2_with fail
            refine HL.out.mono ?_
            rintro e w7 ⟨rfl, hb7⟩
            have HB7 := Lib.hid hb7
            clear hb7
            go_wp2_with fail
            go_meet
            exact ⟨L1, rfl, ⟨HNB.out.2.1, Int.le_refl _⟩, HB7.out⟩
          · rw [decide_eq_false hc]
            clear hc
            go_wp2_with fail
            go_meet
            exact ⟨0, rfl, ⟨Int.le_refl _, HNB.out.2.1⟩, Below.refl _ _⟩
        case rest =>
        obtain ⟨V, rfl, hV, hbc⟩ := hcut
        have hVb : 0 ≤ V ∧ V ≤ 60000000 := by have := HNB.out; have := hV.out; omega
        have HRc := Lib.hid (⟨(HR6.out.2.1.below hbc.out).more hbc.out.size, HR6.out.2.2.trans (hbc.out.mono HR6.out.2.2.size)⟩ : _ ∧ _)
        clear HR6 hbc HLE1 HC15 HC2 hw
        go_upto_region 25 with fail
        go_cut [111] (fun v wx => v = .bool (decide (1 < Fr ∧ Fr ≤ 60)) ∧ wx = wc)
        case first =>
          by_cases h1 : 1 < Fr
          · by_cases h2 : Fr ≤ 60
            · have h1I : (1 : Int) < (Fr : Int) := by omega
              have h2I : (Fr : Int) ≤ 60 := by omega
              have HX := Lib.hid (decide_eq_true (⟨h1, h2⟩ : 1 < Fr ∧ Fr ≤ 60))
              go_wp2_with fail
              all_goals go_meet
              all_goals exact ⟨by rw [HX.out], rfl⟩
            · have h1I : (1 : Int) < (Fr : Int) := by omega
              have h2I : decide ((Fr : Int) ≤ 60) = false := by simp; omega
              have HX := Lib.hid (decide_eq_false (show ¬ (1 < Fr ∧ Fr ≤ 60) from fun h => h2 h.2))
              go_wp2_with fail
              all_goals go_meet
              all_goals exact ⟨by rw [HX.out], rfl⟩
          · have h1I : decide ((1 : Int) < (Fr : Int)) = false := by simp; omega
            have HX := Lib.hid (decide_eq_false (show ¬ (1 < Fr ∧ Fr ≤ 60) from fun h => h1 h.1))
            go_wp2_with fail
            all_goals go_meet
            all_goals exact ⟨by rw [HX.out], rfl⟩
        case rest =>
        obtain ⟨rfl, hw⟩ := hcut
        obtain rfl := hw.symm
        go_upto_if 111 with fail
        go_cut [14] (fun v14 wx => ∃ U : Int, v14 = .int .i64 U ∧ Hid (U < cD) ∧ Hid (Below w.heap.size w wx))
        case first =>
          by_cases hc : 1 < Fr ∧ Fr ≤ 60
          · have HL := Lib.hid (HLE2.out hc wc HRc.out.1)
            have hL2b : 0 ≤ L2 ∧ L2 ≤ 60000000 := by have := HNB.out; omega
            rw [decide_eq_true hc]
            clear hc
            go_wp2_with fail
            refine HL.out.mono ?_
            rintro e w7 ⟨rfl, hb7⟩
            have HB7 := Lib.hid (HRc.out.2.trans (hb7.mono HRc.out.2.size))
            clear hb7
            go_wp2_with fail
            go_meet
            exact ⟨V + L2, rfl, by show _ < _; have := HNB.out; have := hV.out; omega, HB7.out⟩
          · rw [decide_eq_false hc]
            clear hc
            go_wp2_with fail
            go_meet
            exact ⟨V, rfl, by show _ < _; have := HNB.out; have := hV.out; omega, HRc.out.2⟩
        case rest =>
        obtain ⟨U, rfl, hU, hbd⟩ := hcut
        have hUd : U < cD := hU.out
        have HBD := Lib.hid hbd.out
        clear hbd hU HRc HLE2 hV hVb HNB hw
        go_wp2_with fail
        refine (fixed_any _).mono ?_
        rintro e w8 ⟨Af, cf, Ag, cg, rfl, ho1, ho2, hb8⟩
        have HB8 := Lib.hid (HBD.out.trans (hb8.mono HBD.out.size))
        have HO := Lib.hid (⟨ho1, ho2⟩ : _ ∧ _)
        clear ho1 ho2 hb8
        go_wp2_with fail
        refine (answers10_any w8).mono ?_
        rintro e w9 ⟨rfl, hb9⟩
        have HB9 := Lib.hid (HB8.out.trans (hb9.mono HB8.out.size))
        have hk1 := rcheck_any Af 288 cf w9.heap.size fixL 15 w9 ((HO.out.1.rd.below hb9).more hb9.size) (by omega)
        have hk2 := rcheck_any Ag 32 cg w9.heap.size fixD 15 w9 ((HO.out.2.rd.below hb9).more hb9.size) (by omega)
        rw [fix_ok.1] at hk1
        rw [fix_ok.2] at hk2
        have HK1 := Lib.hid hk1
        have HK2 := Lib.hid hk2
        clear hb9 hk1 hk2
        go_wp2_with fail
        refine HK1.out.mono ?_
        rintro e w10 ⟨rfl, rfl⟩
        go_wp2_with fail
        refine HK2.out.mono ?_
        rintro e w11 ⟨rfl, rfl⟩
        go_wp2_with fail
        go_ret
        exact ⟨rfl, HB9.out⟩
  · have hd : Hid (decide ((expand [] toks).1 = 0) = false) := decide_eq_false he
    clear he
    go_enter Try.func3, Try.ntmps3
    go_wp2_with fail
    refine HSN.out.mono ?_
    rintro e w1 ⟨rfl, hb1⟩
    rw [hd.out]
    have HB1 := Lib.hid hb1
    clear hb1
    go_wp2_with fail
    refine (answers10_any w1).mono ?_
    rintro e w2 ⟨rfl, hb⟩
    have HB2 := Lib.hid (HB1.out.trans (hb.mono HB1.out.size))
    clear hb
    go_wp2_with fail
    go_ret
    exact ⟨rfl, HB2.out⟩
end Go.Proofs.Ytckhkkjdibcclaa
