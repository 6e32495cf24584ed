/-
  The walk of block.WriteKind where nothing may be written, and of a fixed block.
-/
import Derived.Test.YtckhkkjdibcclaaProg
import Derived.Test.YtckhkkjdibcclaaBkT
import Derived.Test.YtckhkkjdibcclaaBkM
import Derived.Test.YtckhkkjdibcclaaFixL
import Derived.Test.YtckhkkjdibcclaaInfO
namespace Go.Proofs.Ytckhkkjdibcclaa
open Go.RowKit
set_option linter.unusedVariables false
theorem BkS.keeps {w2 wr w' : World} {b0 g : Nat} {A : Option Addr} {L : List Int} (h : BkS w2 wr b0 g A L) (hb : Below wr.heap.size wr w') : BkS w2 w' b0 g A L := by
  obtain ⟨⟨A', n', c', h1, h2⟩, h3⟩ := h
  exact ⟨⟨A', n', c', h1.keeps hb, h2⟩, h3.trans (S' := fun _ => False) (Chg.of_below hb) fun k hk => hk.elim⟩
theorem BkS.start {w w1 : World} {b0 g n c : Nat} {A : Option Addr} {L : List Int} (hw : Wtr w b0 g A n c L) (hb : Below w.heap.size w w1) : BkS w w1 b0 g A L :=
  ⟨⟨A, n, c, hw.keeps hb, fun k hk => .inl hk⟩, Chg.of_below hb⟩
set_option maxRecDepth 100000 in
set_option maxHeartbeats 2000000 in
theorem wkind_no (w : World) (g : Nat) (kind : Int) (At : Option Addr) (nt ct : Nat) (toks : List Tok) (hT : RdT w w.heap.size At nt toks) (hnt : (nt : Int) ≤ 4611686018427387904) (Ar : Option Addr) (m cr : Nat) (last : Bool) (hm : bkMay kind toks m = false) :
    Calls Try.prog 16 #[.pointer (some ⟨g, 0, none⟩), .int .i64 kind, .slice At nt ct, .slice Ar m cr, .bool last] w fun e w' => e = .returned (.bool false) ∧ Below w.heap.size w w' := by
  have HM := Lib.hid (may_any w kind At nt ct toks hT hnt Ar m cr)
  have HF := Lib.hid hm
  clear hT hm
  go_enter Try.func16, Try.ntmps16
  go_wp2_with fail
  refine HM.out.mono ?_
  rintro e w1 ⟨rfl, hb1⟩
  rw [HF.out]
  go_wp2_with fail
  go_ret
  exact ⟨rfl, hb1⟩
set_option maxRecDepth 100000 in
set_option maxHeartbeats 4000000 in
theorem wkind_fixed (w : World) (b0 g n c : Nat) (A : Option Addr) (L : List Int) (hw : Wtr w b0 g A n c L) (At : Option Addr) (nt ct : Nat) (toks : List Tok) (hT : RdT w w.heap.size At nt toks) (hsep : 0 < nt → ∀ ad, At = some ad → ¬ foot A g ad.block) (hlit : ∀ t ∈ toks, 0 ≤ t.lit ∧ t.lit < 256)
    (Ar : Option Addr) (m cr : Nat) (last : Bool) (hm : bkMay 1 toks m = true) (hlen : L.length ≤ 3000000000000) :
    Calls Try.prog 16 #[.pointer (some ⟨g, 0, none⟩), .int .i64 1, .slice At nt ct, .slice Ar m cr, .bool last] w fun e w' => e = .returned (.bool true) ∧ BkS w w' b0 g A (L ++ ofN (if last then 1 else 0) 1 ++ ofN 1 2 ++ blkB fixL fixD toks) := by
  have hmm : toks.length < 1048576 ∧ ∀ t ∈ toks, soundT t := by
    unfold bkMay at hm
    rw [if_neg (by decide)] at hm
    by_cases h : ¬ ((1 : Int) = 1 ∨ (1 : Int) = 2) ∨ 1048576 ≤ toks.length
    · rw [if_pos h] at hm; exact absurd hm (by decide)
    · rw [if_neg h, List.all_eq_true] at hm
      exact ⟨by omega, fun t ht => of_decide_eq_true (hm t ht)⟩
  have hnl := hT.1
  have HM := Lib.hid (may_any w 1 At nt ct toks hT (by omega) Ar m cr)
  have HF := Lib.hid hm
  have HH := Lib.hid (⟨hw, hT, hsep, hlit, hmm.1, hmm.2, hlen, hnl⟩ : _ ∧ _ ∧ _ ∧ _ ∧ _ ∧ _ ∧ _ ∧ _)
  clear hT hm hw hsep hlit hmm hlen hnl
  obtain ⟨mk, hmk⟩ : ∃ mk : Int, (if last = true then (1 : Int) else 0) = mk := ⟨_, rfl⟩
  have hmkb : mk = if last = true then (1 : Int) else 0 := hmk.symm
  rw [hmk]
  clear hmk
  cases last with
  | false =>
    obtain rfl : mk = 0 := hmkb
    go_enter Try.func16, Try.ntmps16
    go_wp2_with fail
    refine HM.out.mono ?_
    rintro e w1 ⟨rfl, hb1⟩
    rw [HF.out]
    have HS0 := Lib.hid (BkS.start HH.out.1 hb1)
    have HP1 := Lib.hid (HS0.out.put 0 1 (by decide) (by decide) (by have := HH.out.2.2.2.2.2.2.1; omega))
    clear hb1
    go_wp2_with fail
    refine HP1.out.mono ?_
    rintro e w2 ⟨rfl, h2⟩
    have HP2 := Lib.hid (h2.put 1 2 (by decide) (by decide) (by rw [List.length_append, ofN_length]; have := HH.out.2.2.2.2.2.2.1; omega))
    clear h2
    go_wp2_with fail
    refine HP2.out.mono ?_
    rintro e w3 ⟨rfl, h3⟩
    have H3 := Lib.hid h3
    clear h3
    go_wp2_with fail
    refine (fixed_any w3).mono ?_
    rintro e w4 ⟨Af, cf, Ag, cg, rfl, ho1, ho2, hb4⟩
    obtain ⟨hw, hT, hsep, hlit, hlt, hsnd, hlen, hnl⟩ := HH.out
    have h4 := H3.out.keeps hb4
    obtain ⟨⟨A4, n4, c4, hw4, hA4⟩, hc4⟩ := h4
    have hT4 : RdT w4 w.heap.size At nt toks := hT.chg hc4 (Nat.le_refl _) hsep
    have htk := tokens_any w4 b0 g n4 c4 A4 _ hw4 w.heap.size At nt ct toks hT4 hc4.size (fun h0 ad e hk => by
        have hbl : ad.block < w.heap.size := by
          obtain ⟨ad', e', hb', _⟩ := hT.2 h0
          rw [e] at e'; injection e' with e'; rw [e']; exact hb'
        rcases hk with hk | hk
        · exact hsep h0 ad e (.inl hk)
        · rcases hA4 _ hk with h | h
          · exact hsep h0 ad e (.inr h)
          · omega)
      (fun t ht => ⟨hsnd t ht, hlit t ht⟩) (by rw [List.length_append, List.length_append, ofN_length, ofN_length]; omega) w4.heap.size Af 288 cf fixL ho1.rd (Nat.le_refl _) (by decide) fix_ok.1 w4.heap.size Ag 32 cg fixD ho2.rd (Nat.le_refl _) (by decide) fix_ok.2
    have HTK := Lib.hid htk
    have HC4 := Lib.hid (⟨hA4, hc4⟩ : _ ∧ _)
    clear htk hT4 hw4 hA4 hc4 hw hT hsep hlit hlt hsnd hlen hnl ho1 ho2 hb4
    go_wp2_with fail
    refine HTK.out.mono ?_
    rintro e w5 ⟨rfl, h5⟩
    have hfin := Lib.hid (show BkS w w5 b0 g A (L ++ ofN 0 1 ++ ofN 1 2 ++ blkB fixL fixD toks) from by
      obtain ⟨⟨A5, n5, c5, q1, q2⟩, q3⟩ := h5
      exact BkS.next HC4.out.2 HC4.out.1 q1 q3 q2)
    clear h5
    go_wp2_with fail
    go_ret
    exact ⟨rfl, hfin.out⟩
  | true =>
    obtain rfl : mk = 1 := hmkb
    go_enter Try.func16, Try.ntmps16
    go_wp2_with fail
    refine HM.out.mono ?_
    rintro e w1 ⟨rfl, hb1⟩
    rw [HF.out]
    have HS0 := Lib.hid (BkS.start HH.out.1 hb1)
    have HP1 := Lib.hid (HS0.out.put 1 1 (by decide) (by decide) (by have := HH.out.2.2.2.2.2.2.1; omega))
    clear hb1
    go_wp2_with fail
    refine HP1.out.mono ?_
    rintro e w2 ⟨rfl, h2⟩
    have HP2 := Lib.hid (h2.put 1 2 (by decide) (by decide) (by rw [List.length_append, ofN_length]; have := HH.out.2.2.2.2.2.2.1; omega))
    clear h2
    go_wp2_with fail
    refine HP2.out.mono ?_
    rintro e w3 ⟨rfl, h3⟩
    have H3 := Lib.hid h3
    clear h3
    go_wp2_with fail
    refine (fixed_any w3).mono ?_
    rintro e w4 ⟨Af, cf, Ag, cg, rfl, ho1, ho2, hb4⟩
    obtain ⟨hw, hT, hsep, hlit, hlt, hsnd, hlen, hnl⟩ := HH.out
    have h4 := H3.out.keeps hb4
    obtain ⟨⟨A4, n4, c4, hw4, hA4⟩, hc4⟩ := h4
    have hT4 : RdT w4 w.heap.size At nt toks := hT.chg hc4 (Nat.le_refl _) hsep
    have htk := tokens_any w4 b0 g n4 c4 A4 _ hw4 w.heap.size At nt ct toks hT4 hc4.size (fun h0 ad e hk => by
        have hbl : ad.block < w.heap.size := by
          obtain ⟨ad', e', hb', _⟩ := hT.2 h0
          rw [e] at e'; injection e' with e'; rw [e']; exact hb'
        rcases hk with hk | hk
        · exact hsep h0 ad e (.inl hk)
        · rcases hA4 _ hk with h | h
          · exact hsep h0 ad e (.inr h)
          · omega)
      (fun t ht => ⟨hsnd t ht, hlit t ht⟩) (by rw [List.length_append, List.length_append, ofN_length, ofN_length]; omega) w4.heap.size Af 288 cf fixL ho1.rd (Nat.le_refl _) (by decide) fix_ok.1 w4.heap.size Ag 32 cg fixD ho2.rd (Nat.le_refl _) (by decide) fix_ok.2
    have HTK := Lib.hid htk
    have HC4 := Lib.hid (⟨hA4, hc4⟩ : _ ∧ _)
    clear htk hT4 hw4 hA4 hc4 hw hT hsep hlit hlt hsnd hlen hnl ho1 ho2 hb4
    go_wp2_with fail
    refine HTK.out.mono ?_
    rintro e w5 ⟨rfl, h5⟩
    have hfin := Lib.hid (show BkS w w5 b0 g A (L ++ ofN 1 1 ++ ofN 1 2 ++ blkB fixL fixD toks) from by
      obtain ⟨⟨A5, n5, c5, q1, q2⟩, q3⟩ := h5
      exact BkS.next HC4.out.2 HC4.out.1 q1 q3 q2)
    clear h5
    go_wp2_with fail
    go_ret
    exact ⟨rfl, hfin.out⟩
end Go.Proofs.Ytckhkkjdibcclaa
