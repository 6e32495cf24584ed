/-
  Several texts in one (written by pack2.py): BkD, BkE, BkR.
-/
import Derived.Test.YtckhkkjdibcclaaPlnW
import Derived.Test.YtckhkkjdibcclaaPk25
import Derived.Test.YtckhkkjdibcclaaPk23
import Derived.Test.YtckhkkjdibcclaaPk24
import Derived.Test.YtckhkkjdibcclaaBkC
import Derived.Test.YtckhkkjdibcclaaPk9
import Derived.Deep.RegionLaw
/-
  The walks of block.WriteKind: a stored block, a dynamic block; any kind.
-/
namespace Go.Proofs.Ytckhkkjdibcclaa
open Go.RowKit
set_option linter.unusedVariables false
/-- a block's three first bits -/
def hd3 (kind : Int) (last : Bool) (L : List Int) : List Int := L ++ ofN (if last then 1 else 0) 1 ++ ofN kind 2
/-- all bits behind one more block -/
def outB (kind : Int) (toks : List Tok) (raw : List Int) (last : Bool) (L : List Int) : List Int :=
  if kind = 0 then stoB (hd3 kind last L) raw else if kind = 1 then hd3 kind last L ++ blkB fixL fixD toks else hd3 kind last L ++ planB toks ++ blkB (plLit toks) (plDist toks) toks
theorem hd3_len (kind : Int) (last : Bool) (L : List Int) : (hd3 kind last L).length = L.length + 3 := by unfold hd3; rw [List.length_append, List.length_append, ofN_length, ofN_length]
/-- a block's writer, one call farther -/
theorem BkS.step {w w1 w2 : World} {b0 g : Nat} {A A1 : Option Addr} {L' : List Int} (h : Chg w w1 (foot A g)) (hA1 : ∀ k, blkOf A1 = some k → blkOf A = some k ∨ w.heap.size ≤ k) (h2 : BkS w1 w2 b0 g A1 L') : BkS w w2 b0 g A L' := by
  obtain ⟨⟨A', n', c', q1, q2⟩, q3⟩ := h2
  exact BkS.next h hA1 q1 q3 q2
theorem sep_on {w : World} {g : Nat} {A A1 B : Option Addr} (hA1 : ∀ k, blkOf A1 = some k → blkOf A = some k ∨ w.heap.size ≤ k) (hb : ∀ ad, B = some ad → ad.block < w.heap.size) (h : ∀ ad, B = some ad → ¬ foot A g ad.block) : ∀ ad, B = some ad → ¬ foot A1 g ad.block := fun ad e hk => by
  rcases hk with hk | hk
  · exact h ad e (.inl hk)
  · rcases hA1 _ hk with h1 | h1
    · exact h ad e (.inr h1)
    · have := hb ad e; omega
set_option maxRecDepth 100000 in
set_option maxHeartbeats 4000000 in
theorem wkind_stored (w : World) (b0 g n c : Nat) (A : Option Addr) (L : List Int) (hw : Wtr w b0 g A n c L) (At : Option Addr) (nt ct : Nat) (toks : List Tok) (hT : RdT w w.heap.size At nt toks) (hnt : (nt : Int) ≤ 4611686018427387904)
    (C : Option Addr) (m cr : Nat) (raw : List Int) (hr : RdI .u8 w w.heap.size C m raw) (hsep : 0 < m → ∀ ad, C = some ad → ¬ foot A g ad.block) (hby : ∀ x ∈ raw, 0 ≤ x ∧ x < 256) (last : Bool) (hm : m ≤ 65535) (hlen : L.length ≤ 2000000000000) :
    Calls Try.prog 16 #[.pointer (some ⟨g, 0, none⟩), .int .i64 0, .slice At nt ct, .slice C m cr, .bool last] w fun e w' => e = .returned (.bool true) ∧ BkS w w' b0 g A (stoB (hd3 0 last L) raw) := by
  have HM := Lib.hid (may_any w 0 At nt ct toks hT hnt C m cr)
  have HF := Lib.hid (show bkMay 0 toks m = true by unfold bkMay; rw [if_pos rfl]; exact decide_eq_true hm)
  have HH := Lib.hid (⟨hw, hr, hsep, hby, hm, hlen⟩ : _ ∧ _ ∧ _ ∧ _ ∧ _ ∧ _)
  obtain ⟨mk, hmk⟩ : ∃ mk : Int, (if last = true then (1 : Int) else 0) = mk := ⟨_, rfl⟩
  have HD3 : Hid (hd3 0 last L = L ++ ofN mk 1 ++ ofN 0 2) := by show _ = _; rw [← hmk]; rfl
  have HMK := Lib.hid hmk
  have hmb : 0 ≤ mk ∧ mk ≤ 1 := by cases last <;> simp at hmk <;> omega
  clear hT hw hr hsep hby hm hlen hmk
  go_enter Try.func16, Try.ntmps16
  go_wp2_with fail
  refine HM.out.mono ?_
  rintro e w1 ⟨rfl, hb1⟩
  rw [HF.out]
  have HS0 := Lib.hid (BkS.start HH.out.1 hb1)
  have HB1 := Lib.hid hb1
  clear hb1
  go_upto_if 24 with fail
  go_cut [11] (fun v11 wx => v11 = .int .u32 mk ∧ wx = w1)
  case first =>
    cases last with
    | false =>
      obtain rfl : mk = 0 := HMK.out.symm
      go_wp2_with fail
      go_meet
      exact ⟨rfl, rfl⟩
    | true =>
      obtain rfl : mk = 1 := HMK.out.symm
      go_wp2_with fail
      go_meet
      exact ⟨rfl, rfl⟩
  case rest =>
    obtain ⟨rfl, hwx⟩ := hcut
    obtain rfl := hwx.symm
    have HP1 := Lib.hid (HS0.out.put mk 1 (by omega) (by decide) (by have := HH.out.2.2.2.2.2; omega))
    go_wp2_with fail
    refine HP1.out.mono ?_
    rintro e w2 ⟨rfl, h2⟩
    have HP2 := Lib.hid (h2.put 0 2 (by decide) (by decide) (by rw [List.length_append, ofN_length]; have := HH.out.2.2.2.2.2; omega))
    clear h2
    go_wp2_with fail
    refine HP2.out.mono ?_
    rintro e w3 ⟨rfl, h3⟩
    rw [← HD3.out] at h3
    obtain ⟨⟨A3, n3, c3, hw3, hA3⟩, hc3⟩ := h3
    obtain ⟨hw, hr, hsep, hby, hm, hlen⟩ := HH.out
    have hst := stored_any w3 b0 g n3 c3 w.heap.size m cr A3 C _ raw hw3 (hc3.rdI hr (Nat.le_refl _) hsep) hc3.size (fun h0 => sep_on hA3 (fun ad e => by
      obtain ⟨ad', e', hb', _⟩ := hr.2 h0
      rw [e] at e'; injection e' with e'; rw [e']; exact hb') (hsep h0)) hby (by rw [hd3_len]; omega) hm
    have HST := Lib.hid hst
    have HC3 := Lib.hid (⟨hA3, hc3⟩ : _ ∧ _)
    clear hst hw3 hA3 hc3 hw hr hsep hby hm hlen
    go_wp2_with fail
    refine HST.out.mono ?_
    rintro e w4 ⟨rfl, h4⟩
    have hfin := Lib.hid (BkS.step HC3.out.2 HC3.out.1 h4)
    clear h4
    go_wp2_with fail
    go_ret
    exact ⟨rfl, hfin.out⟩
theorem may_two {toks : List Tok} {m : Nat} (hm : bkMay 2 toks m = true) : toks.length < 1048576 ∧ ∀ t ∈ toks, soundT t := by
  unfold bkMay at hm
  rw [if_neg (by decide)] at hm
  by_cases h : ¬ ((2 : Int) = 1 ∨ (2 : Int) = 2) ∨ 1048576 ≤ toks.length
  · rw [if_pos h] at hm; exact absurd hm (by decide)
  · rw [if_neg h, List.all_eq_true] at hm
    exact ⟨by omega, fun t ht => of_decide_eq_true (hm t ht)⟩
theorem planB_le {t : List Tok} (ht : t.length < 1048576) : (planB t).length ≤ 10000 := by
  have h1 := rnsB_le (hd := plHead t) (fun i hi => by have := chk_in (plHead_check t) i hi; omega) (plRuns t) (plRuns_ok ht)
  have h2 := plRuns_len t
  have h3 := plN_bd t
  unfold planB
  simp only [List.length_append, ofN_length]
  rw [ordB_len _ _ (by omega)]
  omega
set_option maxRecDepth 100000 in
set_option maxHeartbeats 4000000 in
theorem wkind_dyn (w : World) (b0 g n c : Nat) (A : Option Addr) (L : List Int) (hw : Wtr w b0 g A n c L) (At : Option Addr) (nt ct : Nat) (toks : List Tok) (hT : RdT w w.heap.size At nt toks) (hsep : 0 < nt → ∀ ad, At = some ad → ¬ foot A g ad.block) (hlit : ∀ t ∈ toks, 0 ≤ t.lit ∧ t.lit < 256)
    (C : Option Addr) (m cr : Nat) (last : Bool) (hm : bkMay 2 toks m = true) (hlen : L.length ≤ 2000000000000) :
    Calls Try.prog 16 #[.pointer (some ⟨g, 0, none⟩), .int .i64 2, .slice At nt ct, .slice C m cr, .bool last] w fun e w' => e = .returned (.bool true) ∧ BkS w w' b0 g A (hd3 2 last L ++ planB toks ++ blkB (plLit toks) (plDist toks) toks) := by
  obtain ⟨hm1, hm2⟩ := may_two hm
  have hnl := hT.1
  have HM := Lib.hid (may_any w 2 At nt ct toks hT (by omega) C m cr)
  have HF := Lib.hid hm
  have HH := Lib.hid (⟨hw, hT, hsep, hlit, hm1, hm2, hlen, hnl⟩ : _ ∧ _ ∧ _ ∧ _ ∧ _ ∧ _ ∧ _ ∧ _)
  obtain ⟨mk, hmk⟩ : ∃ mk : Int, (if last = true then (1 : Int) else 0) = mk := ⟨_, rfl⟩
  have HD3 : Hid (hd3 2 last L = L ++ ofN mk 1 ++ ofN 2 2) := by show _ = _; rw [← hmk]; rfl
  have HMK := Lib.hid hmk
  have hmb : 0 ≤ mk ∧ mk ≤ 1 := by cases last <;> simp at hmk <;> omega
  clear hT hw hsep hlit hm hm1 hm2 hlen hmk hnl
  go_enter Try.func16, Try.ntmps16
  go_wp2_with fail
  refine HM.out.mono ?_
  rintro e w1 ⟨rfl, hb1⟩
  rw [HF.out]
  have HS0 := Lib.hid (BkS.start HH.out.1 hb1)
  have HB1 := Lib.hid hb1
  clear hb1
  go_upto_if 24 with fail
  go_cut [11] (fun v11 wx => v11 = .int .u32 mk ∧ wx = w1)
  case first =>
    cases last with
    | false =>
      obtain rfl : mk = 0 := HMK.out.symm
      go_wp2_with fail
      go_meet
      exact ⟨rfl, rfl⟩
    | true =>
      obtain rfl : mk = 1 := HMK.out.symm
      go_wp2_with fail
      go_meet
      exact ⟨rfl, rfl⟩
  case rest =>
    obtain ⟨rfl, hwx⟩ := hcut
    obtain rfl := hwx.symm
    have HP1 := Lib.hid (HS0.out.put mk 1 (by omega) (by decide) (by have := HH.out.2.2.2.2.2.2.1; omega))
    go_wp2_with fail
    refine HP1.out.mono ?_
    rintro e w2 ⟨rfl, h2⟩
    have HP2 := Lib.hid (h2.put 2 2 (by decide) (by decide) (by rw [List.length_append, ofN_length]; have := HH.out.2.2.2.2.2.2.1; omega))
    clear h2
    go_wp2_with fail
    refine HP2.out.mono ?_
    rintro e w3 ⟨rfl, h3⟩
    rw [← HD3.out] at h3
    obtain ⟨⟨A3, n3, c3, hw3, hA3⟩, hc3⟩ := h3
    have hT3 : RdT w3 w3.heap.size At nt toks := (HH.out.2.1.chg hc3 (Nat.le_refl _) HH.out.2.2.1).more hc3.size
    have HPL := Lib.hid (planned_any w3 At nt ct toks hT3 HH.out.2.2.2.2.1 fun t ht => ⟨HH.out.2.2.2.2.2.1 t ht, HH.out.2.2.2.1 t ht⟩)
    have H3 := Lib.hid (⟨hw3, hA3, hc3, hT3⟩ : _ ∧ _ ∧ _ ∧ _)
    clear hw3 hA3 hc3 hT3
    go_wp2_with fail
    refine HPL.out.mono ?_
    rintro e w4 hpp
    obtain ⟨vv, rfl⟩ : ∃ v, e = .returned v := by obtain ⟨Al, cl, Ad, cd, Ah, ch, Ax, cx, e1, _⟩ := hpp; exact ⟨_, e1⟩
    obtain ⟨Al, Ad, Ah, Ax, cl, cd, ch, cx, rfl, hb4, hpb⟩ := PlB.new hpp
    clear hpp
    have hbA : Below w3.heap.size w3 (w4.alloc (.cells #[.slice Al (litN toks) cl, .slice Ad (dstN toks) cd, .slice Ah 19 ch, .slice Ax (plRuns toks).length cx, .int .i64 ((plN toks : Nat) : Int)] 65)) := hb4.alloc hb4.size _
    have hpw := pwrite_any _ b0 g n3 c3 A3 _ (H3.out.1.keeps hbA) w4.heap.size w3.heap.size (w4.heap.size + 1) toks Al Ad Ah Ax cl cd ch cx hpb HH.out.2.2.2.2.1 (by simp) (fun k hk => (H3.out.1.foot_lo hk).2) (by rw [hd3_len]; have := HH.out.2.2.2.2.2.2.1; omega)
    have HPW := Lib.hid hpw
    have H4 := Lib.hid (⟨hbA, hpb⟩ : _ ∧ _)
    clear hb4 hpb hbA hpw
    go_wp2_with fail
    obtain ⟨wb, hwb⟩ : ∃ W, w4.alloc (.cells #[.slice Al (litN toks) cl, .slice Ad (dstN toks) cd, .slice Ah 19 ch, .slice Ax (plRuns toks).length cx, .int .i64 ((plN toks : Nat) : Int)] 65) = W := ⟨_, rfl⟩
    have hsz4 : w4.heap.size + 1 = wb.heap.size := by rw [← hwb]; simp
    rw [hwb] at HPW H4
    rw [hwb]
    have HSZ := Lib.hid hsz4
    clear hwb hsz4
    refine HPW.out.mono ?_
    rintro e w5 ⟨rfl, h5⟩
    obtain ⟨⟨A5, n5, c5, hw5, hA5⟩, hc5⟩ := h5
    obtain ⟨hw3, hA3, hc3, hT3⟩ := H3.out
    obtain ⟨hw, hT, hsep, hlit, hm1, hm2, hlen, hnl⟩ := HH.out
    have hpl5 := H4.out.2.chg hc5 (by rw [HSZ.out]; exact Nat.le_refl _) fun k hk => .inl (hw3.foot_lo hk).2
    obtain ⟨k0, k1, -⟩ := hpl5.cells
    have hsep3 : 0 < nt → ∀ ad, At = some ad → ¬ foot A3 g ad.block := fun h0 => sep_on hA3 (fun ad e => by
      obtain ⟨ad', e', hb', _⟩ := hT.2 h0
      rw [e] at e'; injection e' with e'; rw [e']; exact hb') (hsep h0)
    have h34 : w3.heap.size ≤ wb.heap.size := H4.out.1.size
    have hsep5 : 0 < nt → ∀ ad, At = some ad → ¬ foot A5 g ad.block := fun h0 => sep_on hA5 (fun ad e => by
      obtain ⟨ad', e', hb', _⟩ := hT3.2 h0
      rw [e] at e'; injection e' with e'; rw [e']; exact Nat.lt_of_lt_of_le hb' h34) (hsep3 h0)
    have hT5 : RdT w5 w3.heap.size At nt toks := (hT3.below H4.out.1).chg hc5 h34 hsep3
    have hbl := litN_bd toks
    have hbd := dstN_bd toks
    have htk := tokens_any w5 b0 g n5 c5 A5 _ hw5 w3.heap.size At nt ct toks hT5 (Nat.le_trans h34 hc5.size) hsep5 (fun t ht => ⟨hm2 t ht, hlit t ht⟩) (by rw [List.length_append, hd3_len]; have := planB_le hm1; omega)
      (w4.heap.size + 1) Al (litN toks) cl (plLit toks) hpl5.lit (by rw [HSZ.out]; exact hc5.size) (by omega) (plLit_check hm1) (w4.heap.size + 1) Ad (dstN toks) cd (plDist toks) hpl5.dist (by rw [HSZ.out]; exact hc5.size) (by omega) (plDist_check hm1)
    have HTK := Lib.hid htk
    have HS5 : Hid (∀ W L', BkS w5 W b0 g A5 L' → BkS w W b0 g A L') := fun W L' h => BkS.step hc3 hA3 (BkS.step (w1 := wb) (A1 := A3) (Chg.of_below H4.out.1) (fun k hk => .inl hk) (BkS.step hc5 hA5 h))
    clear htk hw5 hA5 hc5 hw3 hA3 hc3 hT3 hw hT hsep hlit hm1 hm2 hlen hnl hpl5 hsep3 h34 hsep5 hT5 hbl hbd HPW
    go_wp2_with fail
    refine HTK.out.mono ?_
    rintro e w6 ⟨rfl, h6⟩
    have hfin := Lib.hid (HS5.out _ _ h6)
    clear h6 k0 k1
    go_wp2_with fail
    go_ret
    exact ⟨rfl, hfin.out⟩
/-- a block of any kind that may be -/
theorem wkind_any (w : World) (b0 g n c : Nat) (A : Option Addr) (L : List Int) (hw : Wtr w b0 g A n c L) (kind : Int) (At : Option Addr) (nt ct : Nat) (toks : List Tok) (hT : RdT w w.heap.size At nt toks) (hnt : (nt : Int) ≤ 4611686018427387904) (hsep : 0 < nt → ∀ ad, At = some ad → ¬ foot A g ad.block) (hlit : ∀ t ∈ toks, 0 ≤ t.lit ∧ t.lit < 256)
    (C : Option Addr) (m cr : Nat) (raw : List Int) (hr : RdI .u8 w w.heap.size C m raw) (hsepr : 0 < m → ∀ ad, C = some ad → ¬ foot A g ad.block) (hby : ∀ x ∈ raw, 0 ≤ x ∧ x < 256) (last : Bool) (hm : bkMay kind toks m = true) (hlen : L.length ≤ 2000000000000) :
    Calls Try.prog 16 #[.pointer (some ⟨g, 0, none⟩), .int .i64 kind, .slice At nt ct, .slice C m cr, .bool last] w fun e w' => e = .returned (.bool true) ∧ BkS w w' b0 g A (outB kind toks raw last L) := by
  have hk : kind = 0 ∨ kind = 1 ∨ kind = 2 := by
    unfold bkMay at hm
    by_cases h0 : kind = 0
    · exact .inl h0
    · rw [if_neg h0] at hm
      by_cases h : ¬ (kind = 1 ∨ kind = 2) ∨ 1048576 ≤ toks.length
      · rw [if_pos h] at hm; exact absurd hm (by decide)
      · omega
  unfold outB
  rcases hk with rfl | rfl | rfl
  · rw [if_pos rfl]
    refine wkind_stored w b0 g n c A L hw At nt ct toks hT hnt C m cr raw hr hsepr hby last ?_ hlen
    unfold bkMay at hm
    rw [if_pos rfl] at hm
    exact of_decide_eq_true hm
  · rw [if_neg (by decide), if_pos rfl]
    exact wkind_fixed w b0 g n c A L hw At nt ct toks hT hsep hlit C m cr last hm (by omega)
  · rw [if_neg (by decide), if_neg (by decide)]
    exact wkind_dyn w b0 g n c A L hw At nt ct toks hT hsep hlit C m cr last hm hlen
end Go.Proofs.Ytckhkkjdibcclaa

/-
  The walks of block.Cost: a fixed block, a dynamic block; any kind.
-/
namespace Go.Proofs.Ytckhkkjdibcclaa
open Go.RowKit
set_option linter.unusedVariables false
def costF (t : List Tok) : Int := 3 + costTo fixL (fqT t).1 286 + costTo fixD (fqT t).2 30 + ((exs t : Nat) : Int)
def costD (t : List Tok) : Int := 3 + szP t + costTo (plLit t) (fqT t).1 (litN t) + costTo (plDist t) (fqT t).2 (dstN t) + ((exs t : Nat) : Int)
/-- how many bits a block has -/
def costB (kind : Int) (t : List Tok) (m : Nat) : Int := if kind = 0 then 40 + 8 * (m : Int) else if kind = 1 then costF t else costD t
theorem may_one {toks : List Tok} {m : Nat} (hm : bkMay 1 toks m = true) : toks.length < 1048576 ∧ ∀ t ∈ toks, soundT t := by
  unfold bkMay at hm
  rw [if_neg (by decide)] at hm
  by_cases h : ¬ ((1 : Int) = 1 ∨ (1 : Int) = 2) ∨ 1048576 ≤ toks.length
  · rw [if_pos h] at hm; exact absurd hm (by decide)
  · rw [if_neg h, List.all_eq_true] at hm
    exact ⟨by omega, fun t ht => of_decide_eq_true (hm t ht)⟩
theorem bel_drewN {b : Nat} {w w' : World} (h : Below b w w') (q : Nat) : Below b w (w'.drewN q) := ⟨h.os, h.tape, h.output, h.size, h.block⟩
theorem cost_bel (A C : Option Addr) (n m c d : Nat) (l f : List Int) (w : World) (hl : RdI .i64 w w.heap.size A n l) (hf : RdI .i64 w w.heap.size C m f) (hn : n ≤ 1000) (hm : m ≤ 1000) :
    Calls Try.prog 30 #[.slice A n c, .slice C m d] w fun e w' => e = .returned (.int .i64 (costTo l f (min n m))) ∧ Below w.heap.size w w' :=
  (cost_any A C n m c d l f w w.heap.size hl hf hn hm).mono fun e w' h => ⟨h.1, by obtain ⟨q, rfl⟩ := h.2; exact bel_drewN (Below.refl _ w) q⟩
set_option maxRecDepth 100000 in
set_option maxHeartbeats 4000000 in
theorem bcost_fixed (w : World) (At : Option Addr) (nt ct : Nat) (toks : List Tok) (hT : RdT w w.heap.size At nt toks) (hlit : ∀ t ∈ toks, 0 ≤ t.lit ∧ t.lit < 256) (C : Option Addr) (m cr : Nat) (hm : bkMay 1 toks m = true) :
    Calls Try.prog 11 #[.int .i64 1, .slice At nt ct, .slice C m cr] w fun e w' => e = .returned (.int .i64 (costF toks)) ∧ Below w.heap.size w w' := by
  obtain ⟨hm1, hm2⟩ := may_one hm
  have hnl := hT.1
  have HM := Lib.hid (may_any w 1 At nt ct toks hT (by omega) C m cr)
  have HF := Lib.hid hm
  have HH := Lib.hid (⟨hT, hlit, hm1, hm2, hnl⟩ : _ ∧ _ ∧ _ ∧ _ ∧ _)
  have HB : Hid (costTo_bd fixL (fqT toks).1 286 (by omega) = costTo_bd fixL (fqT toks).1 286 (by omega)) := rfl
  have b1 := costTo_bd fixL (fqT toks).1 286 (by omega)
  have b2 := costTo_bd fixD (fqT toks).2 30 (by omega)
  have b3 := exs_le toks
  have hcf : costF toks = 3 + costTo fixL (fqT toks).1 286 + costTo fixD (fqT toks).2 30 + ((exs toks : Nat) : Int) := rfl
  obtain ⟨c1, hc1⟩ : ∃ c, costTo fixL (fqT toks).1 286 = c := ⟨_, rfl⟩
  obtain ⟨c2, hc2⟩ : ∃ c, costTo fixD (fqT toks).2 30 = c := ⟨_, rfl⟩
  obtain ⟨c3, hc3⟩ : ∃ c, exs toks = c := ⟨_, rfl⟩
  rw [hc1, hc2, hc3] at hcf
  rw [hc1] at b1
  rw [hc2] at b2
  rw [hc3] at b3
  have hcb : 0 ≤ c1 ∧ c1 ≤ 400000000000000 ∧ 0 ≤ c2 ∧ c2 ≤ 400000000000000 ∧ (0 : Int) ≤ (c3 : Int) ∧ (c3 : Int) ≤ 400000000000000 := by omega
  have HCF := Lib.hid hcf
  have HC := Lib.hid (⟨hc1, hc2, hc3⟩ : _ ∧ _ ∧ _)
  clear hT hlit hm hm1 hm2 hnl b1 b2 b3 hcf hc1 hc2 hc3 HB
  go_enter Try.func11, Try.ntmps11
  go_wp2_with fail
  refine HM.out.mono ?_
  rintro e w1 ⟨rfl, hb1⟩
  rw [HF.out]
  have HFQ := Lib.hid (freqs_any w1 At nt ct toks ((HH.out.1.below hb1).more hb1.size) (by have := HH.out; omega) fun t ht => ⟨HH.out.2.2.2.1 t ht, HH.out.2.1 t ht⟩)
  have HB1 := Lib.hid hb1
  clear hb1
  go_wp2_with fail
  refine HFQ.out.mono ?_
  rintro e w2 ⟨g1, g2, rfl, hM⟩
  have HFX := Lib.hid (fixed_any w2)
  have HM2 := Lib.hid hM
  clear hM
  go_wp2_with fail
  refine HFX.out.mono ?_
  rintro e w3 ⟨Af, cf, Ad, cd, rfl, ho1, ho2, hb3⟩
  have hf1 := (HM2.out.lit.keeps hb3).rd
  have hf2 := (HM2.out.dist.keeps hb3).rd
  have HK1 := Lib.hid (cost_bel Af (some ⟨g1, 0, none⟩) 288 286 cf 286 _ _ w3 ho1.rd hf1 (by omega) (by omega))
  rw [show min 288 286 = 286 from rfl, HC.out.1] at HK1
  have H3 := Lib.hid (⟨ho2.rd, hf2, HB1.out.trans (HM2.out.bel.mono HB1.out.size |>.trans (hb3.mono (Nat.le_trans HB1.out.size HM2.out.bel.size)))⟩ : _ ∧ _ ∧ _)
  clear ho1 ho2 hb3 hf1 hf2
  go_wp2_with fail
  refine HK1.out.mono ?_
  rintro e w4 ⟨rfl, hb4⟩
  have HK2 := Lib.hid (cost_bel Ad (some ⟨g2, 0, none⟩) 32 30 cd 30 _ _ w4 ((H3.out.1.below hb4).more hb4.size) ((H3.out.2.1.below hb4).more hb4.size) (by omega) (by omega))
  rw [show min 32 30 = 30 from rfl, HC.out.2.1] at HK2
  have H4 := Lib.hid (H3.out.2.2.trans (hb4.mono H3.out.2.2.size))
  clear hb4
  go_wp2_with fail
  refine HK2.out.mono ?_
  rintro e w5 ⟨rfl, hb5⟩
  have h5 := H4.out.trans (hb5.mono H4.out.size)
  have HEX := Lib.hid (extras_any w5 At nt ct toks ((HH.out.1.below h5).more h5.size) (by have := HH.out; omega))
  rw [HC.out.2.2] at HEX
  have H5 := Lib.hid h5
  clear hb5 h5
  go_wp2_with fail
  refine HEX.out.mono ?_
  rintro e w6 ⟨rfl, hb6⟩
  have H6 := Lib.hid (H5.out.trans (hb6.mono H5.out.size))
  clear hb6
  go_wp2_with fail
  go_ret
  exact ⟨ret_int (by rw [HCF.out]), H6.out⟩
/-- the calls of code.Cost -/
inductive CoI (Al Ad : Option Addr) (nl nd cl cd g1 g2 : Nat) (c1 c2 : Int) : Option Addr → Nat → Nat → Option Addr → Nat → Nat → Int → Prop
  | lit : CoI Al Ad nl nd cl cd g1 g2 c1 c2 Al nl cl (some ⟨g1, 0, none⟩) 286 286 c1
  | dist : CoI Al Ad nl nd cl cd g1 g2 c1 c2 Ad nd cd (some ⟨g2, 0, none⟩) 30 30 c2
set_option maxRecDepth 100000 in
set_option maxHeartbeats 8000000 in
theorem bcost_dyn (w : World) (At : Option Addr) (nt ct : Nat) (toks : List Tok) (hT : RdT w w.heap.size At nt toks) (hlit : ∀ t ∈ toks, 0 ≤ t.lit ∧ t.lit < 256) (C : Option Addr) (m cr : Nat) (hm : bkMay 2 toks m = true) :
    Calls Try.prog 11 #[.int .i64 2, .slice At nt ct, .slice C m cr] w fun e w' => e = .returned (.int .i64 (costD toks)) ∧ Below w.heap.size w w' := by
  obtain ⟨hm1, hm2⟩ := may_two hm
  have hnl := hT.1
  have HM := Lib.hid (may_any w 2 At nt ct toks hT (by omega) C m cr)
  have HF := Lib.hid hm
  have HH := Lib.hid (⟨hT, hlit, hm1, hm2, hnl⟩ : _ ∧ _ ∧ _ ∧ _ ∧ _)
  clear hT hlit hm hm1 hm2 hnl
  go_enter Try.func11, Try.ntmps11
  go_wp2_with fail
  refine HM.out.mono ?_
  rintro e w1 ⟨rfl, hb1⟩
  rw [HF.out]
  have HFQ := Lib.hid (freqs_any w1 At nt ct toks ((HH.out.1.below hb1).more hb1.size) (by have := HH.out; omega) fun t ht => ⟨HH.out.2.2.2.1 t ht, HH.out.2.1 t ht⟩)
  have HB1 := Lib.hid hb1
  clear hb1
  go_wp2_with fail
  refine HFQ.out.mono ?_
  rintro e w2 ⟨g1, g2, rfl, hM⟩
  have HB2 := Lib.hid (HB1.out.trans (hM.bel.mono HB1.out.size))
  have HPL := Lib.hid (planned_any w2 At nt ct toks ((HH.out.1.below HB2.out).more HB2.out.size) HH.out.2.2.1 fun t ht => ⟨HH.out.2.2.2.1 t ht, HH.out.2.1 t ht⟩)
  have HM2 := Lib.hid hM
  clear hM
  go_wp2_with fail
  refine HPL.out.mono ?_
  rintro e w4 hpp
  obtain ⟨vv, rfl⟩ : ∃ v, e = .returned v := by obtain ⟨Al, cl, Ad, cd, Ah, ch, Ax, cx, e1, _⟩ := hpp; exact ⟨_, e1⟩
  obtain ⟨Al, Ad, Ah, Ax, cl, cd, ch, cx, rfl, hb4, hpb⟩ := PlB.new hpp
  clear hpp
  have hbA : Below w2.heap.size w2 (w4.alloc (.cells #[.slice Al (litN toks) cl, .slice Ad (dstN toks) cd, .slice Ah 19 ch, .slice Ax (plRuns toks).length cx, .int .i64 ((plN toks : Nat) : Int)] 65)) := hb4.alloc hb4.size _
  have hwb2 : Below w.heap.size w (w4.alloc (.cells #[.slice Al (litN toks) cl, .slice Ad (dstN toks) cd, .slice Ah 19 ch, .slice Ax (plRuns toks).length cx, .int .i64 ((plN toks : Nat) : Int)] 65)) := HB2.out.trans (hbA.mono HB2.out.size)
  have hf1 := (HM2.out.lit.keeps hbA).rd
  have hf2 := (HM2.out.dist.keeps hbA).rd
  have H4 := Lib.hid (⟨hpb, hwb2, hf1, hf2⟩ : _ ∧ _ ∧ _ ∧ _)
  clear hb4 hpb hbA hwb2 hf1 hf2
  go_upto_region 10 with fail
  obtain ⟨wb, hwb⟩ : ∃ W, w4.alloc (.cells #[.slice Al (litN toks) cl, .slice Ad (dstN toks) cd, .slice Ah 19 ch, .slice Ax (plRuns toks).length cx, .int .i64 ((plN toks : Nat) : Int)] 65) = W := ⟨_, rfl⟩
  have hsz4 : w4.heap.size + 1 = wb.heap.size := by rw [← hwb]; simp
  rw [hwb] at H4
  rw [hwb]
  obtain ⟨G, hG⟩ : ∃ G, w4.heap.size = G := ⟨_, rfl⟩
  rw [hG] at H4 hsz4
  rw [hG]
  rw [hsz4] at H4
  clear hwb hsz4 hG
  have hbl := litN_bd toks
  have hbd := dstN_bd toks
  have b1 := costTo_bd (plLit toks) (fqT toks).1 (litN toks) (by omega)
  have b2 := costTo_bd (plDist toks) (fqT toks).2 (dstN toks) (by omega)
  have b3 := exs_le toks
  have b4 := rnsCost_bd (head_in toks) (plRuns toks) (plRuns_ok HH.out.2.2.1)
  have b5 := plRuns_len toks
  have b6 := plN_bd toks
  have hcd : costD toks = 3 + szP toks + costTo (plLit toks) (fqT toks).1 (litN toks) + costTo (plDist toks) (fqT toks).2 (dstN toks) + ((exs toks : Nat) : Int) := rfl
  have hsb : 0 ≤ szP toks ∧ szP toks ≤ 10000 := by unfold szP; omega
  have hSZ : ∀ W, Below wb.heap.size wb W → Calls Try.prog 33 #[.pointer (some ⟨G, 0, none⟩)] W fun e w' => e = .returned (.int .i64 (szP toks)) ∧ Below wb.heap.size wb w' := fun W h =>
    (size_any W G w2.heap.size wb.heap.size toks Al Ad Ah Ax cl cd ch cx (H4.out.1.below h (Nat.le_refl _)) HH.out.2.2.1 h.size).mono fun e w' q => ⟨q.1, h.trans (q.2.mono h.size)⟩
  have hCO : ∀ W, Below wb.heap.size wb W → ∀ A n c F k d v, CoI Al Ad (litN toks) (dstN toks) cl cd g1 g2 (costTo (plLit toks) (fqT toks).1 (litN toks)) (costTo (plDist toks) (fqT toks).2 (dstN toks)) A n c F k d v → Calls Try.prog 30 #[.slice A n c, .slice F k d] W fun e w' => e = .returned (.int .i64 v) ∧ Below wb.heap.size wb w' := fun W h A n c F k d v hc => by
    cases hc with
    | lit =>
      have := cost_bel Al (some ⟨g1, 0, none⟩) (litN toks) 286 cl 286 _ _ W ((H4.out.1.lit.below h).more h.size) ((H4.out.2.2.1.below h).more h.size) (by omega) (by omega)
      rw [show min (litN toks) 286 = litN toks by omega] at this
      exact this.mono fun e w' q => ⟨q.1, h.trans (q.2.mono h.size)⟩
    | dist =>
      have := cost_bel Ad (some ⟨g2, 0, none⟩) (dstN toks) 30 cd 30 _ _ W ((H4.out.1.dist.below h).more h.size) ((H4.out.2.2.2.below h).more h.size) (by omega) (by omega)
      rw [show min (dstN toks) 30 = dstN toks by omega] at this
      exact this.mono fun e w' q => ⟨q.1, h.trans (q.2.mono h.size)⟩
  have hEX : ∀ W, Below wb.heap.size wb W → Calls Try.prog 31 #[.slice At nt ct] W fun e w' => e = .returned (.int .i64 ((exs toks : Nat) : Int)) ∧ Below wb.heap.size wb w' := fun W h =>
    (extras_any W At nt ct toks ((HH.out.1.below (H4.out.2.1.trans (h.mono H4.out.2.1.size))).more (Nat.le_trans H4.out.2.1.size h.size)) (by have := HH.out; omega)).mono fun e w' q => ⟨q.1, h.trans (q.2.mono h.size)⟩
  obtain ⟨c1, hc1⟩ : ∃ c, costTo (plLit toks) (fqT toks).1 (litN toks) = c := ⟨_, rfl⟩
  obtain ⟨c2, hc2⟩ : ∃ c, costTo (plDist toks) (fqT toks).2 (dstN toks) = c := ⟨_, rfl⟩
  obtain ⟨c3, hc3⟩ : ∃ c, exs toks = c := ⟨_, rfl⟩
  obtain ⟨c4, hc4⟩ : ∃ c, szP toks = c := ⟨_, rfl⟩
  obtain ⟨nl, hnl⟩ : ∃ n, litN toks = n := ⟨_, rfl⟩
  obtain ⟨nd, hnd⟩ : ∃ n, dstN toks = n := ⟨_, rfl⟩
  rw [hc1, hc2, hc3, hc4] at hcd
  rw [hc1, hnl] at b1
  rw [hc2, hnd] at b2
  rw [hc3] at b3
  rw [hc4] at hsb
  rw [hc1, hc2, hnl, hnd] at hCO
  rw [hc3] at hEX
  rw [hc4] at hSZ
  obtain ⟨k0, k1, -⟩ := H4.out.1.cells
  rw [hnl] at k0
  rw [hnd] at k1
  have hcb : 0 ≤ c1 ∧ c1 ≤ 400000000000000 ∧ 0 ≤ c2 ∧ c2 ≤ 400000000000000 ∧ (0 : Int) ≤ (c3 : Int) ∧ (c3 : Int) ≤ 400000000000000 ∧ 0 ≤ c4 ∧ c4 ≤ 10000 := by have := HH.out.2.2.1; omega
  have HK : Hid (∀ W, Below wb.heap.size wb W → W.cell? ⟨G, 0, none⟩ = some (.slice Al nl cl) ∧ W.cell? ⟨G, 1, none⟩ = some (.slice Ad nd cd)) := fun W h => by
    obtain ⟨q0, q1, -⟩ := (H4.out.1.below h (Nat.le_refl _)).cells
    rw [hnl] at q0
    rw [hnd] at q1
    exact ⟨q0, q1⟩
  have HWR : Hid (IntKind.i64.wrap (IntKind.i64.wrap (IntKind.i64.wrap (IntKind.i64.wrap (3 + c4) + c1) + c2) + (c3 : Int)) = 3 + c4 + c1 + c2 + (c3 : Int)) := by
    show _ = _
    rw [IntWalk.i64_in (3 + c4) (by omega), IntWalk.i64_in (3 + c4 + c1) (by omega), IntWalk.i64_in (3 + c4 + c1 + c2) (by omega), IntWalk.i64_in (3 + c4 + c1 + c2 + (c3 : Int)) (by omega)]
  have HSZ := Lib.hid hSZ
  have HCO := Lib.hid hCO
  have HEX := Lib.hid hEX
  have HCD := Lib.hid hcd
  have HWB := Lib.hid H4.out.2.1
  have HB0 := Lib.hid (Below.refl wb.heap.size wb)
  clear hbl hbd b1 b2 b3 b4 b5 b6 hcd hsb hSZ hCO hEX hc1 hc2 hc3 hc4 hnl hnd H4 HPL HFQ HM
  go_cut [6] (fun v6 wx => v6 = .int .i64 (costD toks) ∧ Below w.heap.size w wx)
  case first =>
    go_region_law
      (first
        | (have _g := hb8
           go_simp
           go_at_call 31
           refine (HEX.out _ hb8).mono ?_
           rintro e w9 ⟨rfl, hb9⟩)
        | (have _g := hb7
           go_simp
           go_at_call 30
           refine (HCO.out _ hb7 _ _ _ _ _ _ _ (by constructor)).mono ?_
           rintro e w8 ⟨rfl, hb8⟩)
        | (have _g := hb6
           go_simp
           go_at_call 30
           refine (HCO.out _ hb6 _ _ _ _ _ _ _ (by constructor)).mono ?_
           rintro e w7 ⟨rfl, hb7⟩
           have q1 := (HK.out _ hb7).2)
        | (go_simp
           go_at_call 33
           refine (HSZ.out _ (by exact HB0.out.drew)).mono ?_
           rintro e w6 ⟨rfl, hb6⟩
           have q0 := (HK.out _ hb6).1
           have q1 := (HK.out _ hb6).2))
    all_goals
      have HB9 := Lib.hid hb9
      clear hb9 hb8 hb7 hb6
      go_wp2_with fail
      go_meet
      exact ⟨congrArg (Value.int .i64) (HWR.out.trans HCD.out.symm), HWB.out.trans (HB9.out.mono HWB.out.size)⟩
  case rest =>
    obtain ⟨rfl, hb⟩ := hcut
    have HB := Lib.hid hb
    clear hb
    go_wp2_with fail
    go_ret
    exact ⟨rfl, HB.out⟩
/-- a block's cost, of any kind that may be -/
theorem bcost_any (w : World) (kind : Int) (At : Option Addr) (nt ct : Nat) (toks : List Tok) (hT : RdT w w.heap.size At nt toks) (hnt : (nt : Int) ≤ 4611686018427387904) (hlit : ∀ t ∈ toks, 0 ≤ t.lit ∧ t.lit < 256) (C : Option Addr) (m cr : Nat) :
    Calls Try.prog 11 #[.int .i64 kind, .slice At nt ct, .slice C m cr] w fun e w' => e = .returned (.int .i64 (if bkMay kind toks m = true then costB kind toks m else -1)) ∧ Below w.heap.size w w' := by
  by_cases hm : bkMay kind toks m = true
  · rw [if_pos hm]
    have hk : kind = 0 ∨ kind = 1 ∨ kind = 2 := by
      unfold bkMay at hm
      by_cases h0 : kind = 0
      · exact .inl h0
      · rw [if_neg h0] at hm
        by_cases h : ¬ (kind = 1 ∨ kind = 2) ∨ 1048576 ≤ toks.length
        · rw [if_pos h] at hm; exact absurd hm (by decide)
        · omega
    unfold costB
    rcases hk with rfl | rfl | rfl
    · rw [if_pos rfl]
      refine bcost_stored w At nt ct toks hT hnt C m cr ?_
      unfold bkMay at hm
      rw [if_pos rfl] at hm
      exact of_decide_eq_true hm
    · rw [if_neg (by decide), if_pos rfl]
      exact bcost_fixed w At nt ct toks hT hlit C m cr hm
    · rw [if_neg (by decide), if_neg (by decide)]
      exact bcost_dyn w At nt ct toks hT hlit C m cr hm
  · rw [if_neg hm]
    exact bcost_no w kind At nt ct toks hT hnt C m cr (by simpa using hm)
end Go.Proofs.Ytckhkkjdibcclaa

/-
  Plain law: bits that are read as blocks; one more block.
-/
namespace Go.Proofs.Ytckhkkjdibcclaa
open Go.RowKit
set_option linter.unusedVariables false
/-! every symbol that comes has a code -/
theorem fq_lit {l : List Tok} : ∀ t ∈ l, t.len = 0 → t.lit.toNat < 286 → 1 ≤ ix (fqT l).1 t.lit.toNat := by
  refine fold_snoc (β := Nat) (motive := fun l => ∀ t ∈ l, t.len = 0 → t.lit.toNat < 286 → 1 ≤ ix (fqT l).1 t.lit.toNat) ?_ ?_ l
  · intro t ht; simp at ht
  · intro l u ih t ht h0 h1
    rw [fqT_snoc]
    have hb := fq_bd l
    have hln := fq_len l
    rcases List.mem_append.1 ht with ht | ht
    · have := ih t ht h0 h1
      unfold fqS
      split
      · simp only; rw [ix_bump]; split <;> omega
      · simp only; rw [ix_bump]; split <;> omega
    · obtain rfl := List.mem_singleton.1 ht
      unfold fqS
      rw [if_pos h0]
      simp only
      rw [ix_bump, if_pos ⟨rfl, by rw [hln.1]; exact h1⟩]
      have := (hb t.lit.toNat).1; omega
theorem fq_text {l : List Tok} : ∀ t ∈ l, soundT t → t.len ≠ 0 → 1 ≤ ix (fqT l).1 (257 + lenJ t.len) ∧ 1 ≤ ix (fqT l).2 (distJ t.dist) := by
  refine fold_snoc (β := Nat) (motive := fun l => ∀ t ∈ l, soundT t → t.len ≠ 0 → 1 ≤ ix (fqT l).1 (257 + lenJ t.len) ∧ 1 ≤ ix (fqT l).2 (distJ t.dist)) ?_ ?_ l
  · intro t ht; simp at ht
  · intro l u ih t ht hs h0
    rw [fqT_snoc]
    have hb := fq_bd l
    have hln := fq_len l
    obtain ⟨_, _, j28, q29⟩ := tok_bd hs h0
    rcases List.mem_append.1 ht with ht | ht
    · have := ih t ht hs h0
      unfold fqS
      split
      · simp only; rw [ix_bump]; refine ⟨?_, this.2⟩; split <;> omega
      · simp only; rw [ix_bump, ix_bump]; constructor <;> (split <;> omega)
    · obtain rfl := List.mem_singleton.1 ht
      unfold fqS
      rw [if_neg h0]
      simp only
      rw [ix_bump, ix_bump, if_pos ⟨rfl, by rw [hln.1]; omega⟩, if_pos ⟨rfl, by rw [hln.2]; omega⟩]
      have := (hb (257 + lenJ t.len)).1
      have := (hb (distJ t.dist)).2
      omega
theorem litL_pos {l : List Tok} (hl : l.length < 1048576) {s : Nat} (h : 1 ≤ ix (fqT l).1 s) (hs : s < 286) : 1 ≤ ix (plLit l) s := by
  have h1 := ((lenF_res (fqT l).1 15).snd (fq_mv hl).1).each s (by rw [(fq_len l).1]; exact hs)
  have h2 : 0 < ix (litL l) s := h1.1.2 (by omega)
  have h3 : s < litN l := by
    rcases Nat.lt_or_ge s (litN l) with h3 | h3
    · exact h3
    · have := trimQ_zero (litL l) 257 286 s h3 hs; omega
  unfold plLit
  rw [ix_takeB h3]; omega
theorem dstL_pos {l : List Tok} (hl : l.length < 1048576) {s : Nat} (h : 1 ≤ ix (fqT l).2 s) (hs : s < 30) : 1 ≤ ix (plDist l) s := by
  have h1 := ((lenF_res (fqT l).2 15).snd (fq_mv hl).2).each s (by rw [(fq_len l).2]; exact hs)
  have h2 : 0 < ix (dstL l) s := h1.1.2 (by omega)
  have h3 : s < dstN l := by
    rcases Nat.lt_or_ge s (dstN l) with h3 | h3
    · exact h3
    · have := trimQ_zero (dstL l) 1 30 s h3 hs; omega
  unfold plDist
  by_cases hc : dstN l = 1 ∧ ix (dstL l) 0 = 0
  · have : s = 0 := by omega
    subst this; omega
  · rw [if_neg hc, ix_takeB h3]; omega
theorem dyn_sym {l : List Tok} (hl : l.length < 1048576) {t : Tok} (ht : t ∈ l) (hs : soundT t) (hlit : 0 ≤ t.lit ∧ t.lit < 256) : symOk (plLit l) (plDist l) t := by
  unfold symOk
  by_cases h0 : t.len = 0
  · rw [if_pos h0]; exact litL_pos hl (fq_lit t ht h0 (by omega)) (by omega)
  · rw [if_neg h0]
    obtain ⟨_, _, j28, q29⟩ := tok_bd hs h0
    obtain ⟨h1, h2⟩ := fq_text t ht hs h0
    exact ⟨litL_pos hl h1 (by omega), dstL_pos hl h2 (by omega)⟩
theorem lit_end {l : List Tok} (hl : l.length < 1048576) : 1 ≤ ix (plLit l) 256 := litL_pos hl (fq_end l) (by omega)
theorem fixL_pos : ∀ s, s < 288 → 1 ≤ ix fixL s := fun s hs => by rw [fixL_at s hs]; split <;> (try split) <;> (try split) <;> omega
theorem fix_sym {t : Tok} (hs : soundT t) (hlit : 0 ≤ t.lit ∧ t.lit < 256) : symOk fixL fixD t := by
  unfold symOk
  by_cases h0 : t.len = 0
  · rw [if_pos h0]; exact fixL_pos _ (by omega)
  · rw [if_neg h0]
    obtain ⟨_, _, j28, q29⟩ := tok_bd hs h0
    refine ⟨fixL_pos _ (by omega), ?_⟩
    have : ix fixD (distJ t.dist) = 5 := by unfold fixD; rw [ix_repB _ (by omega)]
    omega
theorem hdF_pos {rs : List Rn} : ∀ r ∈ rs, RnOk r → 1 ≤ ix (hdF rs) r.c.toNat := by
  refine fold_snoc (β := Nat) (motive := fun rs => ∀ r ∈ rs, RnOk r → 1 ≤ ix (hdF rs) r.c.toNat) ?_ ?_ rs
  · intro r hr; simp at hr
  · intro rs u ih r hr hok
    rw [hdF_snoc, ix_bump]
    have hb := hdF_bd rs r.c.toNat
    rcases List.mem_append.1 hr with hr | hr
    · have := ih r hr hok
      split <;> omega
    · obtain rfl := List.mem_singleton.1 hr
      rw [if_pos ⟨rfl, by rw [hdF_len]; have := hok.1; omega⟩]; omega
theorem head_pos {l : List Tok} (hl : l.length < 1048576) : ∀ r ∈ plRuns l, 1 ≤ ix (plHead l) r.c.toNat := fun r hr => by
  have hok := plRuns_ok hl r hr
  have h1 := ((lenF_res (hdF (plRuns l)) 7).snd (hd_mv l)).each r.c.toNat (by rw [hdF_len]; have := hok.1; omega)
  have h2 := hdF_pos r hr hok
  have h3 : 0 < ix (plHead l) r.c.toNat := h1.1.2 (by omega)
  omega
theorem runs_ne {l : List Tok} : plRuns l ≠ [] := fun e => by
  have h := (runs_dec _ (plLit l ++ plDist l) rfl)
  unfold plRuns at e
  have hl := plLit_len l
  have hb := litN_bd l
  cases hll : plLit l with
  | nil => rw [hll] at hl; simp at hl; omega
  | cons a r =>
    rw [hll, List.cons_append, runsP_cons] at e
    split at e
    · simp at e
    · rename_i h9
      have h1 : repP a (runN a (r ++ plDist l) + 1) ≠ [] := fun e2 => by
        rw [repP, dif_neg (by omega)] at e2
        split at e2
        · simp at e2
        · split at e2
          · simp at e2
          · split at e2
            · simp at e2
            · simp at e2
      exact h1 (List.append_eq_nil_iff.1 e).1
theorem ord_some {l : List Tok} (hl : l.length < 1048576) : noneB (ordL (plHead l) (plN l)) = false := by
  obtain ⟨r, hr⟩ : ∃ r, r ∈ plRuns l := by
    cases h : plRuns l with
    | nil => exact absurd h runs_ne
    | cons r _ => exact ⟨r, List.mem_cons_self⟩
  have h1 := head_pos hl r hr
  have hc := (plRuns_ok hl r hr).1
  have hc19 : r.c.toNat < 19 := by omega
  obtain ⟨o1, o2⟩ := hOrd_ix r.c.toNat hc19
  have hN := plN_bd l
  have hlt : hOrd.idxOf r.c.toNat < plN l := by
    rcases Nat.lt_or_ge (hOrd.idxOf r.c.toNat) (plN l) with h3 | h3
    · exact h3
    · have h4 := trimQ_zero (ordQ.map fun k => ix (plHead l) k.toNat) 4 19 _ h3 o1
      have e1 : ∀ (L : List Int) (g : Int → Int) (i : Nat), i < L.length → ix (L.map g) i = g (ix L i) := fun L g i hi => by simp [ix, hi]
      rw [e1 _ _ _ o1, o2] at h4
      omega
  have hlen := ordL_len (plHead l) (k := plN l) (by omega)
  have e : ix (ordL (plHead l) (plN l)) (hOrd.idxOf r.c.toNat) = ix (plHead l) r.c.toNat := by
    have e1 : ∀ (L : List Int) (g : Int → Int) (i : Nat), i < L.length → ix (L.map g) i = g (ix L i) := fun L g i hi => by simp [ix, hi]
    unfold ordL
    rw [e1 _ _ _ (by rw [List.length_take]; show _ < min (plN l) 19; omega), ix_takeB hlt, o2]
  unfold noneB
  rw [List.all_eq_false]
  refine ⟨ix (ordL (plHead l) (plN l)) (hOrd.idxOf r.c.toNat), ix_mem (by rw [hlen]; exact hlt), ?_⟩
  rw [e]; simp; omega
theorem ord_zero (l : List Tok) : ∀ i, plN l ≤ i → i < 19 → ix (plHead l) (ix ordQ i).toNat = 0 := fun i h1 h2 => by
  have h4 := trimQ_zero (ordQ.map fun k => ix (plHead l) k.toNat) 4 19 _ h1 h2
  have e1 : ∀ (L : List Int) (g : Int → Int) (i : Nat), i < L.length → ix (L.map g) i = g (ix L i) := fun L g i hi => by simp [ix, hi]
  rw [e1 _ _ _ h2] at h4
  exact h4
end Go.Proofs.Ytckhkkjdibcclaa
