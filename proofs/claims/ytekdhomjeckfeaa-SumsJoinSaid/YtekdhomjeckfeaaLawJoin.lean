/-
  The walk of the law SumsJoin.
-/
import Derived.Test.YtekdhomjeckfeaaProg
import Derived.Test.YtekdhomjeckfeaaLawTell
import Derived.Test.YtekdhomjeckfeaaJoinA
namespace Go.Proofs.Ytekdhomjeckfeaa
open Go.RowKit
set_option linter.unusedVariables false

/-- the second text, j noughts behind it -/
def zl (l : List Int) (j : Nat) : List Int := l ++ List.replicate j 0
theorem zl_zero (l : List Int) : zl l 0 = l := by simp [zl]
theorem zl_succ (l : List Int) (j : Nat) : zl l j ++ [0] = zl l (j + 1) := by simp [zl, List.replicate_succ']
theorem cat_bd {a b : List Int} (ha : ∀ i, 0 ≤ ix a i ∧ ix a i < 256) (hb : ∀ i, 0 ≤ ix b i ∧ ix b i < 256) (i : Nat) : 0 ≤ ix (a ++ b) i ∧ ix (a ++ b) i < 256 := by
  rw [ix_append]; split
  · exact ha i
  · exact hb _
theorem zl_bd {l : List Int} (h : ∀ i, 0 ≤ ix l i ∧ ix l i < 256) (j : Nat) : ∀ i, 0 ≤ ix (zl l j) i ∧ ix (zl l j) i < 256 :=
  cat_bd h (bd_of (by intro x hx; have := List.eq_of_mem_replicate hx; omega))
theorem join_facts (la lb : List Int) (J n m : Nat) (hn : n = la.length) (hm : (zl lb J).length = m) (hA : ∀ i, 0 ≤ ix la i ∧ ix la i < 256) :
    cmpI (crTo (cmpI (cmpI (crTo (cmpI 0) la n))) (zl lb J) m) = cmpI (crTo (cmpI 0) (la ++ zl lb J) (n + m)) ∧
    joinC (cmpI (crTo (cmpI 0) la n)) (cmpI (crTo (cmpI 0) (zl lb J) m)) m = cmpI (crTo (cmpI 0) (la ++ zl lb J) (n + m)) ∧
    adY (lowH (adY (lowH 1) (highH 1) la n * 65536 + adX (lowH 1) la n)) (highH (adY (lowH 1) (highH 1) la n * 65536 + adX (lowH 1) la n)) (zl lb J) m * 65536 + adX (lowH (adY (lowH 1) (highH 1) la n * 65536 + adX (lowH 1) la n)) (zl lb J) m =
      adY (lowH 1) (highH 1) (la ++ zl lb J) (n + m) * 65536 + adX (lowH 1) (la ++ zl lb J) (n + m) ∧
    joinA (adY (lowH 1) (highH 1) la n * 65536 + adX (lowH 1) la n) (adY (lowH 1) (highH 1) (zl lb J) m * 65536 + adX (lowH 1) (zl lb J) m) m =
      adY (lowH 1) (highH 1) (la ++ zl lb J) (n + m) * 65536 + adX (lowH 1) (la ++ zl lb J) (n + m) := by
  subst hn
  have hc := crTo_bd (cmpI_bd (s := 0) (by omega)) hA la.length
  have e0 : cmpI 0 = 4294967295 := by decide +kernel
  have hx := adX_bd (x := lowH 1) (l := la) (by decide) la.length
  have hy := adY_bd (x := lowH 1) (y := highH 1) (l := la) (by decide) la.length
  have hp := adX_bd (x := lowH 1) (l := zl lb J) (by decide) m
  have hq := adY_bd (x := lowH 1) (y := highH 1) (l := zl lb J) (by decide) m
  obtain ⟨h1, h2⟩ := ad_half hx hy
  obtain ⟨h3, h4⟩ := ad_half hp hq
  have h1' : lowH (adY (lowH 1) (highH 1) la la.length * 65536 + adX (lowH 1) la la.length) = adX (lowH 1) la la.length := h1
  have h2' : highH (adY (lowH 1) (highH 1) la la.length * 65536 + adX (lowH 1) la la.length) = adY (lowH 1) (highH 1) la la.length := h2
  have h3' : lowH (adY (lowH 1) (highH 1) (zl lb J) m * 65536 + adX (lowH 1) (zl lb J) m) = adX (lowH 1) (zl lb J) m := h3
  have h4' : highH (adY (lowH 1) (highH 1) (zl lb J) m * 65536 + adX (lowH 1) (zl lb J) m) = adY (lowH 1) (highH 1) (zl lb J) m := h4
  refine ⟨?_, ?_, ?_, ?_⟩
  · rw [cmp_cmp hc, crTo_append]
  · rw [crTo_append, e0]
    exact joinC_eq hA 4294967295 4294967295 (by omega) (by omega)
  · rw [h1', h2', adX_append, adY_append]
  · unfold joinA
    rw [h1', h2', h3', h4', adX_append, adY_append]
    have k1 : lowH 1 = 1 := by decide
    have k2 : highH 1 = 0 := by decide
    rw [k1] at hx
    rw [k1, k2] at hy
    rw [k1, k2]
    have g1 := adX_lin hx (zl lb J) m
    have g2 := adY_lin hx hy (zl lb J) m
    rw [g1, g2]
    unfold joinHigh joinLow
    obtain ⟨x, hxe⟩ : ∃ x, adX 1 la la.length = x := ⟨_, rfl⟩
    obtain ⟨y, hye⟩ : ∃ x, adY 1 0 la la.length = x := ⟨_, rfl⟩
    obtain ⟨p, hpe⟩ : ∃ x, adX 1 (zl lb J) m = x := ⟨_, rfl⟩
    obtain ⟨q, hqe⟩ : ∃ x, adY 1 0 (zl lb J) m = x := ⟨_, rfl⟩
    rw [hxe, hye, hpe, hqe]
    congr 1
    · congr 1
      have e : ((m : Int) % 65521 * ((x + 65521 - 1) % 65521)) % 65521 = ((m : Int) * (x + 65520)) % 65521 := by
        rw [show x + 65521 - 1 = x + 65520 by omega, ← Int.mul_emod]
      obtain ⟨T, hT⟩ : ∃ T, (m : Int) % 65521 * ((x + 65521 - 1) % 65521) = T := ⟨_, rfl⟩
      obtain ⟨V, hV⟩ : ∃ V, (m : Int) * (x + 65520) = V := ⟨_, rfl⟩
      rw [hT, hV] at e
      rw [hT, hV]
      omega
    · omega

theorem RdI.apart {k : IntKind} {w w' : World} {B n : Nat} {C : Option Addr} {l : List Int} {row : Option Nat} (h : RdI k w B C n l) (hB : B ≤ w.heap.size) (hg : w.grownBy w' row) (hne : ∀ ad, C = some ad → 0 < n → row ≠ some ad.block) : RdI k w' B C n l :=
  ⟨h.1, fun hm => by
    obtain ⟨ad, e, hb, hc⟩ := h.2 hm
    refine ⟨ad, e, hb, fun i hi => ?_⟩
    rw [← hc i hi]
    exact World.cell?_of_block (hg.block (ad.add i).block (by rw [addr_block]; omega) (by rw [addr_block]; exact fun e2 => hne ad e hm e2.symm))⟩

set_option maxRecDepth 100000 in
set_option maxHeartbeats 8000000 in
theorem sumsJoin_walk (A0 : Option Addr) (n c0 : Nat) (la : List Int) (B0 : Option Addr) (m0 d0 : Nat) (lb : List Int) (many : Int) (w : World) (hr : RdI .u8 w w.heap.size A0 n la) (hn0 : n ≤ maxLen) (hwa : ∀ x ∈ la, (Lit.int .u8 x).wf = true)
    (hrb : RdI .u8 w w.heap.size B0 m0 lb) (hm0 : m0 ≤ maxLen) (hwb : ∀ x ∈ lb, (Lit.int .u8 x).wf = true) (hmany : (Lit.int .u16 many).wf = true) :
    Calls Try.prog 6 #[.slice A0 n c0, .slice B0 m0 d0, .int .u16 many] w fun e w' => e = .returned (.bool true) ∧ Below w.heap.size w w' := by
  have hnI : (n : Int) ≤ 9223372036854775807 := by unfold maxLen at hn0; omega
  have hmI : (m0 : Int) ≤ 9223372036854775807 := by unfold maxLen at hm0; omega
  have hM : 0 ≤ many ∧ many ≤ 65535 := by simpa [Lit.wf, IntKind.min, IntKind.max, IntKind.signed, IntKind.bits] using hmany
  have HA := Lib.hid (bd_of (bd_wf hwa))
  have HB := Lib.hid (bd_of (bd_wf hwb))
  have hnl := Lib.hid hr.1
  obtain ⟨i0, hi, hz0, hz1, hz2⟩ := info_parts byte_info
  have Hi := Lib.hid hi
  have Hz0 := Lib.hid hz0
  have Hz1 := Lib.hid hz1
  have Hz2 := Lib.hid hz2
  clear hi hz0 hz1 hz2 hn0 hwa hwb hmany hm0
  by_cases h1 : (5000 : Int) < n
  · go_enter Try.func6, Try.ntmps6
    go_wp2_with fail
    refine (sanswers_any _).mono ?_
    rintro e w1 ⟨rfl, hb⟩
    go_wp2
    go_ret
    exact ⟨rfl, hb⟩
  by_cases h2 : (5000 : Int) < m0
  · go_enter Try.func6, Try.ntmps6
    go_wp2_with fail
    refine (sanswers_any _).mono ?_
    rintro e w1 ⟨rfl, hb⟩
    go_wp2
    go_ret
    exact ⟨rfl, hb⟩
  have hk1 : OwnI .u8 (w.alloc (.cells #[] 5)) w.heap.size 5 (some ⟨w.heap.size, 0, none⟩) 0 0 [] := OwnI.lit rfl [] _ (Nat.le_refl _) (by simp)
  go_enter Try.func6, Try.ntmps6
  go_wp2_with (first
    | (at_builtin; (refine wpList_app .u8 w.heap.size 5 i0 1 rfl (.tmp 20) (.tmp 21) _ rfl Try.underlying23 Hi.out Hz0.out Hz1.out Hz2.out rfl hk1 rfl (hr.alloc (Nat.le_refl _) _) (by omega) (by omega) (by simp) ?_)
       intro A2 c2 w2 hown2 hg2 hat2
       have hb2 : Below w.heap.size w w2 := below_grown (b0 := w.heap.size) ((Below.refl _ _).alloc (Nat.le_refl _) _) hg2 (by simp) (by simp [blkOf])
       rw [Nat.zero_add, List.nil_append] at hown2)
    | (at_builtin; (refine wpList_app .u8 w.heap.size 5 i0 1 rfl (.tmp 22) (.tmp 23) _ rfl Try.underlying23 Hi.out Hz0.out Hz1.out Hz2.out rfl hown2 rfl (hrb.below hb2) (by omega) (by omega) hb2.size ?_)
       intro A3 c3 w3 hown3 hg3 hat3
       have hb3 : Below w.heap.size w w3 := below_grown (b0 := w.heap.size) hb2 hg3 hb2.size (fun g hg => (hown2.2.lt hg).1)))
  have hr0 : RdI .u8 w3 w3.heap.size B0 m0 (zl lb 0) := by rw [zl_zero]; exact (hrb.below hb3).more hb3.size
  have hne0 : ∀ ad, B0 = some ad → 0 < m0 → blkOf A3 ≠ some ad.block := by
    intro ad hB hm h
    obtain ⟨ad', e, hbl, _⟩ := hrb.2 hm
    rw [hB] at e
    cases e
    have := (hown3.2.lt h).1
    omega
  have hown0 : OwnI .u8 w3 w.heap.size 5 A3 (n + m0) c3 (la ++ zl lb 0) := by rw [zl_zero]; exact hown3
  clear hk1 hown2 hg2 hat2 hb2 hown3 hg3 hat3
  go_loopw [1, 7, 8] (fun bv av iv wr => ∃ (j m d c : Nat) (C A : Option Addr), (j : Int) ≤ 51 ∧ (m : Int) ≤ 5000 + j ∧ iv = .int .i64 (j : Int) ∧ bv = .slice C m d ∧ av = .slice A (n + m) c ∧ OwnI .u8 wr w.heap.size 5 A (n + m) c (la ++ zl lb j) ∧
      RdI .u8 wr wr.heap.size C m (zl lb j) ∧ Hid (∀ ad, C = some ad → 0 < m → blkOf A ≠ some ad.block) ∧ Below w.heap.size w wr) (fun _ _ iv _ => 60 - (intOf iv).toNat)
  case atStart => exact ⟨0, m0, d0, c3, B0, A3, by omega, by omega, rfl, rfl, rfl, hown0, hr0, hne0, hb3⟩
  case round =>
    obtain ⟨j, m, d, c, C, A, hj, hmm, rfl, rfl, rfl, hown, hbr, hne, hb⟩ := hrel
    by_cases hlt : (j : Int) < many % 2000
    · by_cases hbk : (50 : Int) < j
      · go_wp2_with (first
          | (at_builtin; (refine wpList_app .u8 w.heap.size 5 i0 1 rfl (.tmp 32) (.tmp 33) _ rfl Try.underlying23 Hi.out Hz0.out Hz1.out Hz2.out rfl (hown.alloc _) rfl (RdI.lit' .u8 rfl [(0 : Int)] 5) (by simp; omega) (by omega) (by have := hb.size; simp; omega) ?_)
             intro A1 c1 w1 hown1 hg1 hat1
             have hb1 : Below w.heap.size w w1 := below_grown (b0 := w.heap.size) (hb.alloc hb.size _) hg1 (by have := hb.size; simp; omega) (fun g hg => (hown.2.lt hg).1)
             have hbr1 := (hbr.alloc (Nat.le_refl _) (.cells #[.int .u8 0] 5)).apart (by simp) hg1 hne.out
             have hbr1b : RdI .u8 w1 w1.heap.size C m (zl lb j) := hbr1.more (by have := hg1.size; simp at this; omega)
             clear hbr1)
          | (at_builtin; (refine wpList_app .u8 w.heap.size 5 i0 1 rfl (.tmp 35) (.tmp 36) _ rfl Try.underlying23 Hi.out Hz0.out Hz1.out Hz2.out rfl (OwnI.lit rfl [] _ hb1.size (by simp)) rfl (hbr1b.alloc (Nat.le_refl _) _) (by omega) (by omega) (by have := hb1.size; simp; omega) ?_)
             intro A2 c2 w2 hown2 hg2 hat2
             have hb2 : Below w.heap.size w w2 := below_grown (b0 := w.heap.size) (hb1.alloc hb1.size _) hg2 (by have := hb1.size; simp; omega) (by have := hb1.size; simp [blkOf]; omega)
             rw [Nat.zero_add, List.nil_append] at hown2
             have hA2 := (hown1.alloc (.cells #[] 5)).grown hg2 (by simp only [blkOf, Option.map_some]; left; intro h; exact Nat.lt_irrefl _ (hown1.2.lt h).2))
          | (at_builtin; (refine wpList_app .u8 w.heap.size 5 i0 1 rfl (.tmp 37) (.tmp 38) _ rfl Try.underlying23 Hi.out Hz0.out Hz1.out Hz2.out rfl (hown2.alloc _) rfl (RdI.lit' .u8 rfl [(0 : Int)] 5) (by simp; omega) (by omega) (by have := hb2.size; simp; omega) ?_)
             intro A4 c4 w4 hown4 hg4 hat4
             have hb4 : Below w.heap.size w w4 := below_grown (b0 := w.heap.size) (hb2.alloc hb2.size _) hg4 (by have := hb2.size; simp; omega) (fun g hg => (hown2.2.lt hg).1)))
        have hne2 : blkOf A1 ≠ blkOf A2 ∨ blkOf A1 = none := by
          cases hq : blkOf A1 with
          | none => exact .inr rfl
          | some q =>
            left
            intro h
            have h1 := (hown1.2.lt hq).2
            rcases hat2 with e | e
            · rw [← h] at e
              simp [blkOf] at e
              omega
            · rw [← h] at e
              simp at e
              omega
        have ho4 := (hA2.alloc (.cells #[.int .u8 0] 5)).grown hg4 hne2
        have hne4 : Hid (∀ ad, A4 = some ad → 0 < m + 1 → blkOf A1 ≠ some ad.block) := by
          intro ad hA _ h
          have h1 := (hown1.2.lt h).2
          have h2 : blkOf A4 = some ad.block := by rw [hA]; rfl
          have s2 := hg2.size
          simp at s2
          rcases hat4 with e | e
          · rw [h2] at e
            rcases hat2 with e2 | e2
            · rw [← e] at e2
              simp [blkOf] at e2
              omega
            · rw [← e] at e2
              simp at e2
              omega
          · rw [h2] at e
            simp at e
            omega
        have ho5 : OwnI .u8 w4 w.heap.size 5 A1 (n + (m + 1)) c1 (la ++ zl lb (j + 1)) := by
          rw [← zl_succ, ← List.append_assoc]; exact ho4
        have hbr4 : RdI .u8 w4 w4.heap.size A4 (m + 1) (zl lb (j + 1)) := by rw [← zl_succ]; exact hown4.rd
        clear hown1 hg1 hat1 hb1 hbr1b hown2 hg2 hat2 hb2 hA2 hown4 hg4 hat4 hown hbr hne hb hne2 ho4
        obtain ⟨M, hMe⟩ : ∃ M, m + 1 = M := ⟨_, rfl⟩
        obtain ⟨J, hJe⟩ : ∃ J, j + 1 = J := ⟨_, rfl⟩
        rw [hMe] at ho5 hbr4
        rw [hJe] at ho5 hbr4
        rw [show n + m + 1 = n + M from by omega, hMe]
        have hMb : (M : Int) ≤ 5100 := by omega
        clear hMe hJe hmm hne4
        have hra := (hr.below hb4)
        have hall := ho5.rd
        have hBl : Hid ((zl lb J).length = M) := hbr4.1.symm
        have hAl : Hid ((la ++ zl lb J).length = n + M) := by show _ = _; rw [List.length_append, ← hbr4.1, ← hr.1]
        have HLB := Lib.hid (zl_bd HB.out J)
        have HLA := Lib.hid (cat_bd HA.out HLB.out)
        go_wp2_with fail
        refine (crc_any 0 _ _ _ _ _ _ hra hb4.size HA.out (by omega) (by omega)).mono ?_
        rintro e w1 ⟨rfl, hb1⟩
        have hB1 := hb4.trans (hb1.mono hb4.size)
        have x1 := hall.below hb1
        have y1 := hbr4.below hb1
        go_wp2_with fail
        refine (adler_any 1 _ _ _ _ _ _ (hr.below hB1) HA.out (by omega) (by omega)).mono ?_
        rintro e w2 ⟨rfl, rfl⟩
        have cA : Hid (crTo (cmpI 0) la n = crTo (cmpI 0) la la.length) := by show _ = _; rw [← hnl.out]
        have hx0 := cmpI_bd (crTo_bd (cmpI_bd (s := 0) (by omega)) HA.out n)
        have hax := adX_bd (x := lowH 1) (l := la) (by decide) n
        have hay := adY_bd (x := lowH 1) (y := highH 1) (l := la) (by decide) n
        have ha0 : 0 ≤ adY (lowH 1) (highH 1) la n * 65536 + adX (lowH 1) la n ∧ adY (lowH 1) (highH 1) la n * 65536 + adX (lowH 1) la n < 4294967296 := by omega
        have HF := Lib.hid (join_facts la lb J n M hnl.out hBl.out HA.out)
        obtain ⟨X, hX⟩ : ∃ X : Int, cmpI (crTo (cmpI 0) la n) = X := ⟨_, rfl⟩
        obtain ⟨Y, hY⟩ : ∃ Y : Int, adY (lowH 1) (highH 1) la n * 65536 + adX (lowH 1) la n = Y := ⟨_, rfl⟩
        rw [hX] at hx0
        rw [hY] at ha0
        have HX := Lib.hid hX
        have HY := Lib.hid hY
        clear hX hY hax hay
        rw [HX.out, HY.out]
        obtain ⟨f1, f2, f3, f4⟩ := HF.out
        rw [HX.out] at f1 f2
        rw [HY.out] at f3 f4
        have F1 := Lib.hid f1
        have F2 := Lib.hid f2
        have F3 := Lib.hid f3
        have F4 := Lib.hid f4
        clear f1 f2 f3 f4 HF
        go_wp2_with fail
        refine (sanswers_any _).mono ?_
        rintro e w3 ⟨rfl, hb3⟩
        have hB3 := hB1.trans (hb3.mono hB1.size)
        have x3 := (x1.more hb1.size).below hb3
        have y3 := (y1.more hb1.size).below hb3
        go_wp2_with fail
        refine (crc_any X _ _ _ _ _ _ y3 hb3.size HLB.out hx0 (by omega)).mono ?_
        rintro e w4 ⟨rfl, hb4⟩
        have x4 := (x3.more hb3.size).below hb4
        have y4 := (y3.more hb3.size).below hb4
        have hB4 := hB3.trans (hb4.mono hB3.size)
        go_wp2_with fail
        refine (crc_any 0 _ _ _ _ _ _ x4 hb4.size HLA.out (by omega) (by omega)).mono ?_
        rintro e w5 ⟨rfl, hb5⟩
        rw [F1.out]
        have x5 := (x4.more hb4.size).below hb5
        have y5 := (y4.more hb4.size).below hb5
        have hB5 := hB4.trans (hb5.mono hB4.size)
        obtain ⟨P, hP⟩ : ∃ P : Int, cmpI (crTo (cmpI 0) (la ++ zl lb J) (n + M)) = P := ⟨_, rfl⟩
        rw [hP]
        have HP := Lib.hid hP
        clear hP
        go_wp2_with fail
        refine (crc_any 0 _ _ _ _ _ _ y5 hb5.size HLB.out (by omega) (by omega)).mono ?_
        rintro e w6 ⟨rfl, hb6⟩
        have x6 := (x5.more hb5.size).below hb6
        have y6 := (y5.more hb5.size).below hb6
        have hB6 := hB5.trans (hb6.mono hB5.size)
        have hcb := cmpI_bd (crTo_bd (cmpI_bd (s := 0) (by omega)) HLB.out M)
        go_wp2_with fail
        refine (joinCRC_any X _ M _ hx0 hcb (by omega)).mono ?_
        rintro e w7 ⟨rfl, hb7⟩
        have x7 := (x6.more hb6.size).below hb7
        have y7 := (y6.more hb6.size).below hb7
        have hB7 := hB6.trans (hb7.mono hB6.size)
        rw [F2.out, HP.out]
        go_wp2_with fail
        refine (crc_any 0 _ _ _ _ _ _ x7 hb7.size HLA.out (by omega) (by omega)).mono ?_
        rintro e w8 ⟨rfl, hb8⟩
        have x8 := (x7.more hb7.size).below hb8
        have y8 := (y7.more hb7.size).below hb8
        have hB8 := hB7.trans (hb8.mono hB7.size)
        rw [HP.out]
        clear x1 x3 x4 x5 x6 x7 y1 y3 y4 y5 y6 y7
        go_wp2_with fail
        refine (adler_any Y _ _ _ _ _ _ y8 HLB.out ha0 (by omega)).mono ?_
        rintro e w9 ⟨rfl, rfl⟩
        go_wp2_with fail
        refine (adler_any 1 _ _ _ _ _ _ x8 HLA.out (by omega) (by omega)).mono ?_
        rintro e w9 ⟨rfl, rfl⟩
        rw [F3.out]
        obtain ⟨Q, hQ⟩ : ∃ Q : Int, adY (lowH 1) (highH 1) (la ++ zl lb J) (n + M) * 65536 + adX (lowH 1) (la ++ zl lb J) (n + M) = Q := ⟨_, rfl⟩
        rw [hQ]
        have HQ := Lib.hid hQ
        clear hQ
        go_wp2_with fail
        refine (adler_any 1 _ _ _ _ _ _ y8 HLB.out (by omega) (by omega)).mono ?_
        rintro e w9 ⟨rfl, rfl⟩
        have hbx := adX_bd (x := lowH 1) (l := zl lb J) (by decide) M
        have hby := adY_bd (x := lowH 1) (y := highH 1) (l := zl lb J) (by decide) M
        have hb0' : 0 ≤ adY (lowH 1) (highH 1) (zl lb J) M * 65536 + adX (lowH 1) (zl lb J) M ∧ adY (lowH 1) (highH 1) (zl lb J) M * 65536 + adX (lowH 1) (zl lb J) M < 4294967296 := by omega
        go_wp2_with fail
        refine (joinAdler_any Y _ M _ ha0 hb0' (by omega)).mono ?_
        rintro e w9 ⟨rfl, rfl⟩
        rw [F4.out, HQ.out]
        clear hbx hby hb0'
        go_wp2_with fail
        refine (adler_any 1 _ _ _ _ _ _ x8 HLA.out (by omega) (by omega)).mono ?_
        rintro e w9 ⟨rfl, rfl⟩
        rw [HQ.out]
        go_wp2
        go_ret
        exact ⟨rfl, hB8⟩
      · go_wp2_with (first
          | (at_builtin; (refine wpList_app .u8 w.heap.size 5 i0 1 rfl (.tmp 32) (.tmp 33) _ rfl Try.underlying23 Hi.out Hz0.out Hz1.out Hz2.out rfl (hown.alloc _) rfl (RdI.lit' .u8 rfl [(0 : Int)] 5) (by simp; omega) (by omega) (by have := hb.size; simp; omega) ?_)
             intro A1 c1 w1 hown1 hg1 hat1
             have hb1 : Below w.heap.size w w1 := below_grown (b0 := w.heap.size) (hb.alloc hb.size _) hg1 (by have := hb.size; simp; omega) (fun g hg => (hown.2.lt hg).1)
             have hbr1 := (hbr.alloc (Nat.le_refl _) (.cells #[.int .u8 0] 5)).apart (by simp) hg1 hne.out
             have hbr1b : RdI .u8 w1 w1.heap.size C m (zl lb j) := hbr1.more (by have := hg1.size; simp at this; omega)
             clear hbr1)
          | (at_builtin; (refine wpList_app .u8 w.heap.size 5 i0 1 rfl (.tmp 35) (.tmp 36) _ rfl Try.underlying23 Hi.out Hz0.out Hz1.out Hz2.out rfl (OwnI.lit rfl [] _ hb1.size (by simp)) rfl (hbr1b.alloc (Nat.le_refl _) _) (by omega) (by omega) (by have := hb1.size; simp; omega) ?_)
             intro A2 c2 w2 hown2 hg2 hat2
             have hb2 : Below w.heap.size w w2 := below_grown (b0 := w.heap.size) (hb1.alloc hb1.size _) hg2 (by have := hb1.size; simp; omega) (by have := hb1.size; simp [blkOf]; omega)
             rw [Nat.zero_add, List.nil_append] at hown2
             have hA2 := (hown1.alloc (.cells #[] 5)).grown hg2 (by simp only [blkOf, Option.map_some]; left; intro h; exact Nat.lt_irrefl _ (hown1.2.lt h).2))
          | (at_builtin; (refine wpList_app .u8 w.heap.size 5 i0 1 rfl (.tmp 37) (.tmp 38) _ rfl Try.underlying23 Hi.out Hz0.out Hz1.out Hz2.out rfl (hown2.alloc _) rfl (RdI.lit' .u8 rfl [(0 : Int)] 5) (by simp; omega) (by omega) (by have := hb2.size; simp; omega) ?_)
             intro A4 c4 w4 hown4 hg4 hat4
             have hb4 : Below w.heap.size w w4 := below_grown (b0 := w.heap.size) (hb2.alloc hb2.size _) hg4 (by have := hb2.size; simp; omega) (fun g hg => (hown2.2.lt hg).1)))
        have hne2 : blkOf A1 ≠ blkOf A2 ∨ blkOf A1 = none := by
          cases hq : blkOf A1 with
          | none => exact .inr rfl
          | some q =>
            left
            intro h
            have h1 := (hown1.2.lt hq).2
            rcases hat2 with e | e
            · rw [← h] at e
              simp [blkOf] at e
              omega
            · rw [← h] at e
              simp at e
              omega
        have ho4 := (hA2.alloc (.cells #[.int .u8 0] 5)).grown hg4 hne2
        have hne4 : Hid (∀ ad, A4 = some ad → 0 < m + 1 → blkOf A1 ≠ some ad.block) := by
          intro ad hA _ h
          have h1 := (hown1.2.lt h).2
          have h2 : blkOf A4 = some ad.block := by rw [hA]; rfl
          have s2 := hg2.size
          simp at s2
          rcases hat4 with e | e
          · rw [h2] at e
            rcases hat2 with e2 | e2
            · rw [← e] at e2
              simp [blkOf] at e2
              omega
            · rw [← e] at e2
              simp at e2
              omega
          · rw [h2] at e
            simp at e
            omega
        have ho5 : OwnI .u8 w4 w.heap.size 5 A1 (n + (m + 1)) c1 (la ++ zl lb (j + 1)) := by
          rw [← zl_succ, ← List.append_assoc]; exact ho4
        have hbr4 : RdI .u8 w4 w4.heap.size A4 (m + 1) (zl lb (j + 1)) := by rw [← zl_succ]; exact hown4.rd
        clear hown1 hg1 hat1 hb1 hbr1b hown2 hg2 hat2 hb2 hA2 hown4 hg4 hat4 hown hbr hne hb hne2 ho4
        go_roundw
        case rel => exact ⟨j + 1, m + 1, c4, c1, A4, A1, by omega, by omega, by go_num, rfl, rfl, ho5, hbr4, hne4, hb4⟩
        case measure => simp [intOf]; omega
    · obtain ⟨M, rfl⟩ : ∃ M, M = m := ⟨_, rfl⟩
      obtain ⟨J, rfl⟩ : ∃ J, J = j := ⟨_, rfl⟩
      have hMb : (M : Int) ≤ 5100 := by omega
      clear hne
      have hra := (hr.below hb)
      have hall := hown.rd
      have hBl : Hid ((zl lb J).length = M) := hbr.1.symm
      have hAl : Hid ((la ++ zl lb J).length = n + M) := by show _ = _; rw [List.length_append, ← hbr.1, ← hr.1]
      have HLB := Lib.hid (zl_bd HB.out J)
      have HLA := Lib.hid (cat_bd HA.out HLB.out)
      go_wp2_with fail
      refine (crc_any 0 _ _ _ _ _ _ hra hb.size HA.out (by omega) (by omega)).mono ?_
      rintro e w1 ⟨rfl, hb1⟩
      have hB1 := hb.trans (hb1.mono hb.size)
      have x1 := hall.below hb1
      have y1 := hbr.below hb1
      go_wp2_with fail
      refine (adler_any 1 _ _ _ _ _ _ (hr.below hB1) HA.out (by omega) (by omega)).mono ?_
      rintro e w2 ⟨rfl, rfl⟩
      have cA : Hid (crTo (cmpI 0) la n = crTo (cmpI 0) la la.length) := by show _ = _; rw [← hnl.out]
      have hx0 := cmpI_bd (crTo_bd (cmpI_bd (s := 0) (by omega)) HA.out n)
      have hax := adX_bd (x := lowH 1) (l := la) (by decide) n
      have hay := adY_bd (x := lowH 1) (y := highH 1) (l := la) (by decide) n
      have ha0 : 0 ≤ adY (lowH 1) (highH 1) la n * 65536 + adX (lowH 1) la n ∧ adY (lowH 1) (highH 1) la n * 65536 + adX (lowH 1) la n < 4294967296 := by omega
      have HF := Lib.hid (join_facts la lb J n M hnl.out hBl.out HA.out)
      obtain ⟨X, hX⟩ : ∃ X : Int, cmpI (crTo (cmpI 0) la n) = X := ⟨_, rfl⟩
      obtain ⟨Y, hY⟩ : ∃ Y : Int, adY (lowH 1) (highH 1) la n * 65536 + adX (lowH 1) la n = Y := ⟨_, rfl⟩
      rw [hX] at hx0
      rw [hY] at ha0
      have HX := Lib.hid hX
      have HY := Lib.hid hY
      clear hX hY hax hay
      rw [HX.out, HY.out]
      obtain ⟨f1, f2, f3, f4⟩ := HF.out
      rw [HX.out] at f1 f2
      rw [HY.out] at f3 f4
      have F1 := Lib.hid f1
      have F2 := Lib.hid f2
      have F3 := Lib.hid f3
      have F4 := Lib.hid f4
      clear f1 f2 f3 f4 HF
      go_wp2_with fail
      refine (sanswers_any _).mono ?_
      rintro e w3 ⟨rfl, hb3⟩
      have hB3 := hB1.trans (hb3.mono hB1.size)
      have x3 := (x1.more hb1.size).below hb3
      have y3 := (y1.more hb1.size).below hb3
      go_wp2_with fail
      refine (crc_any X _ _ _ _ _ _ y3 hb3.size HLB.out hx0 (by omega)).mono ?_
      rintro e w4 ⟨rfl, hb4⟩
      have x4 := (x3.more hb3.size).below hb4
      have y4 := (y3.more hb3.size).below hb4
      have hB4 := hB3.trans (hb4.mono hB3.size)
      go_wp2_with fail
      refine (crc_any 0 _ _ _ _ _ _ x4 hb4.size HLA.out (by omega) (by omega)).mono ?_
      rintro e w5 ⟨rfl, hb5⟩
      rw [F1.out]
      have x5 := (x4.more hb4.size).below hb5
      have y5 := (y4.more hb4.size).below hb5
      have hB5 := hB4.trans (hb5.mono hB4.size)
      obtain ⟨P, hP⟩ : ∃ P : Int, cmpI (crTo (cmpI 0) (la ++ zl lb J) (n + M)) = P := ⟨_, rfl⟩
      rw [hP]
      have HP := Lib.hid hP
      clear hP
      go_wp2_with fail
      refine (crc_any 0 _ _ _ _ _ _ y5 hb5.size HLB.out (by omega) (by omega)).mono ?_
      rintro e w6 ⟨rfl, hb6⟩
      have x6 := (x5.more hb5.size).below hb6
      have y6 := (y5.more hb5.size).below hb6
      have hB6 := hB5.trans (hb6.mono hB5.size)
      have hcb := cmpI_bd (crTo_bd (cmpI_bd (s := 0) (by omega)) HLB.out M)
      go_wp2_with fail
      refine (joinCRC_any X _ M _ hx0 hcb (by omega)).mono ?_
      rintro e w7 ⟨rfl, hb7⟩
      have x7 := (x6.more hb6.size).below hb7
      have y7 := (y6.more hb6.size).below hb7
      have hB7 := hB6.trans (hb7.mono hB6.size)
      rw [F2.out, HP.out]
      go_wp2_with fail
      refine (crc_any 0 _ _ _ _ _ _ x7 hb7.size HLA.out (by omega) (by omega)).mono ?_
      rintro e w8 ⟨rfl, hb8⟩
      have x8 := (x7.more hb7.size).below hb8
      have y8 := (y7.more hb7.size).below hb8
      have hB8 := hB7.trans (hb8.mono hB7.size)
      rw [HP.out]
      clear x1 x3 x4 x5 x6 x7 y1 y3 y4 y5 y6 y7
      go_wp2_with fail
      refine (adler_any Y _ _ _ _ _ _ y8 HLB.out ha0 (by omega)).mono ?_
      rintro e w9 ⟨rfl, rfl⟩
      go_wp2_with fail
      refine (adler_any 1 _ _ _ _ _ _ x8 HLA.out (by omega) (by omega)).mono ?_
      rintro e w9 ⟨rfl, rfl⟩
      rw [F3.out]
      obtain ⟨Q, hQ⟩ : ∃ Q : Int, adY (lowH 1) (highH 1) (la ++ zl lb J) (n + M) * 65536 + adX (lowH 1) (la ++ zl lb J) (n + M) = Q := ⟨_, rfl⟩
      rw [hQ]
      have HQ := Lib.hid hQ
      clear hQ
      go_wp2_with fail
      refine (adler_any 1 _ _ _ _ _ _ y8 HLB.out (by omega) (by omega)).mono ?_
      rintro e w9 ⟨rfl, rfl⟩
      have hbx := adX_bd (x := lowH 1) (l := zl lb J) (by decide) M
      have hby := adY_bd (x := lowH 1) (y := highH 1) (l := zl lb J) (by decide) M
      have hb0' : 0 ≤ adY (lowH 1) (highH 1) (zl lb J) M * 65536 + adX (lowH 1) (zl lb J) M ∧ adY (lowH 1) (highH 1) (zl lb J) M * 65536 + adX (lowH 1) (zl lb J) M < 4294967296 := by omega
      go_wp2_with fail
      refine (joinAdler_any Y _ M _ ha0 hb0' (by omega)).mono ?_
      rintro e w9 ⟨rfl, rfl⟩
      rw [F4.out, HQ.out]
      clear hbx hby hb0'
      go_wp2_with fail
      refine (adler_any 1 _ _ _ _ _ _ x8 HLA.out (by omega) (by omega)).mono ?_
      rintro e w9 ⟨rfl, rfl⟩
      rw [HQ.out]
      go_wp2
      go_ret
      exact ⟨rfl, hB8⟩
end Go.Proofs.Ytekdhomjeckfeaa
