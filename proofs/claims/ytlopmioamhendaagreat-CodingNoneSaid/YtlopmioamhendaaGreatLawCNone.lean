/-
  The walk of the statement CodingNone.
-/
import Derived.Test.YtlopmioamhendaaGreatCodN
import Derived.Test.YtlopmioamhendaaGreatAns15
import Derived.Test.YtlopmioamhendaaGreatSame
import Derived.Test.YtlopmioamhendaaGreatOpenC
import Derived.Handy
namespace Go.Proofs.YtlopmioamhendaaGreat
open Go.RowKit
set_option linter.unusedVariables false
theorem pt_zero (T : List Int) {N K : Nat} (h : K = N) (e : Bool) : pTakeE N K e = 0 := by unfold pTakeE; rw [if_pos h]

set_option maxRecDepth 100000 in
theorem cnone_law (A : Option Addr) (n c : Nat) (b : List Int) (N : Int) (f : Int) (w : World) (T : InC .u8 w A n c b) (hN : (Lit.int .i64 N).wf = true) (hf : (Lit.int .i64 f).wf = true) :
    Calls Tryz.prog 3 #[.slice A n c, .int .i64 N, .int .i64 f] w fun e w' => e = .returned (.bool true) ∧ Below w.heap.size w w' := by
  clear hN hf
  have hr0 := T.1
  have hnl := T.1.1
  have hS := Lib.hid (rfl : w.heap.size = w.heap.size)
  clear T
  obtain ⟨s, hs⟩ : ∃ s, w.heap.size = s := ⟨_, rfl⟩
  obtain ⟨M, hM⟩ : ∃ M : Nat, M = 4611686018427387904 := ⟨_, rfl⟩
  have HM := Lib.hid hM
  clear hM
  go_enter Tryz.func3, Tryz.ntmps3
  by_cases hbig : (1000 : Int) < n
  · go_wp2_with (first
      | (go_at_call 4; refine (nm_answers _).mono ?_; rintro e wa ⟨rfl, hba⟩))
    go_ret
    exact ⟨rfl, hba⟩
  · have hn1 : n ≤ 1000 := by omega
    have HN1 := Lib.hid hn1
    have HNL := Lib.hid hnl
    clear hnl hn1
    go_wp2_with (first
      | (go_at_call 11; refine (newPipe_any _ _).mono ?_; rintro e w1 ⟨gp, gd, ge, gs, gl, rfl, hp1, hb1⟩
         have hr1 : RdI .u8 w1 w.heap.size A n b := hr0.below hb1)
      | (go_at_call 10; have _g := hp4; refine (pipTake_any 1 hp4 hb4.size (by omega) (by omega) hM7 (by omega)).mono ?_
         rintro e w5 ⟨A8, n8, c8, A9, n9, c9, l9, As9, ns9, cs9, ls9, M9, dn9, rfl, hr5, ht5, hp5, ⟨hb5', hx5⟩, hd5, hm5⟩
         have hb5 : Below w.heap.size w w5 := hb4.trans hb5'.1
         have e9 : pTakeE 1 (min 1 (0 + 0)) true = 8 := by decide
         rw [e9])
      | (go_at_call 10; have _g := hr3; refine (pipTake_any ns2 hp3 hb3.size (by have := HN1.out; omega) (by have := HN1.out; have := HM.out; omega) (by have := HM.out; omega) (by have := HN1.out; omega)).mono ?_
         rintro e w4 ⟨A4, n4, c4, A5, n5, c5, l5, As5, ns5, cs5, ls5, M5, dn5, rfl, hr4, ht4, hp4, ⟨hb4', hx4⟩, hd4, hm4⟩
         have hb4 : Below w.heap.size w w4 := hb3.trans hb4'.1
         have hK4 : min ns2 (0 + ns2) = ns2 := by omega
         rw [pt_zero [] hK4 true]
         rw [hK4, List.nil_append, HNL.out, List.take_length] at hr4
         rw [hK4, List.nil_append, HNL.out, List.drop_length] at ht4
         have hd5 : dn5 = false := by rw [hd4, hK4]; simp
         have hl5 : l5 = [] ∧ ls5 = [] := List.append_eq_nil_iff.mp ht4
         rw [hd5, hl5.1, hl5.2] at hp4
         have hn5 : n5 = 0 := by rw [hp4.own.1]; rfl
         have hns5 : ns5 = 0 := by rw [hp4.s.own.1]; rfl
         obtain ⟨M6, hM6⟩ : ∃ M6 : Nat, M5 = M6 := ⟨M5.toNat, by have := hm4.out.1; have := HN1.out; have := HM.out; omega⟩
         have hM7 : (M6 : Int) ≤ 4611686018427387904 := by have := hm4.out.2; have := HM.out; omega
         rw [hn5, hns5, hM6] at hp4
         have HR4 := Lib.hid hr4
         clear hr4 ht4 hd4 hl5 hm4 hK4 hd5)
      | (go_at_call 8; have _g := hp2; refine (pipEnd_any hp2).mono ?_
         rintro e w3 ⟨rfl, hp3, hc3⟩
         have hb3 : Below w.heap.size w w3 := hb2.trans (hc3.below hp2.loS hb2.size)
         rw [show (4611686018427387904 : Int) = (M : Int) by have := HM.out; omega, List.nil_append] at hp3
         have hns : ns2 = n := by rw [hp3.s.own.1, HNL.out]
         subst hns
         have hr3 : RdI .u8 w3 w.heap.size A ns2 b := hr0.below hb3)
      | (go_at_call 7; have _g := hr1; refine (pipFeed_any _ n c A b hp1 hr1 hb1.size (by have := HN1.out; omega)).mono ?_
         rintro e w2 ⟨rfl, As2, ns2, cs2, hp2, hc2⟩
         have hb2 : Below w.heap.size w w2 := hb1.trans (hc2.below hp1.loS hb1.size))
      | (go_at_call 5; refine (cdFeed_nil _ _).mono ?_; rintro e w1 ⟨rfl, rfl⟩)
      | (go_at_call 6; refine (cdEnd_nil _).mono ?_; rintro e w1 ⟨rfl, rfl⟩)
      | (go_at_call 9; refine (cdTake_nil _ _).mono ?_; rintro e w1 ⟨rfl, rfl⟩)
      | (go_at_call 7; refine (cpFeed_nil _ _).mono ?_; rintro e w1 ⟨rfl, rfl⟩)
      | (go_at_call 8; refine (cpEnd_nil _).mono ?_; rintro e w1 ⟨rfl, rfl⟩)
      | (go_at_call 10; refine (cpTake_nil _ _).mono ?_; rintro e w1 ⟨rfl, rfl⟩)
      | (go_at_call 4; refine (nm_answers _).mono ?_; rintro e wa ⟨rfl, hba⟩)
      | (go_at_call 12; refine (ceWrite_nil _ _).mono ?_; rintro e w1 ⟨rfl, rfl⟩)
      | (go_at_call 13; refine (ceClose_nil _).mono ?_; rintro e w1 ⟨rfl, rfl⟩)
      | (go_at_call 14; refine (ceTake_nil _).mono ?_; rintro e w1 ⟨rfl, rfl⟩)
      | (go_at_call 15; refine (cpHeld_nil _).mono ?_; rintro e w1 ⟨rfl, rfl⟩))
    have hr6 : RdI .u8 wa w4.heap.size A4 n4 b := (hb5'.2.1.rdI HR4.out (Nat.le_refl _) (fun _ ad e => hx4 _ (by rw [e]; rfl))).below (hba.mono hb5'.1.size)
    have hr7 : RdI .u8 wa w4.heap.size A ns2 b := ((hr0.below (hb5.trans (hba.mono hb5.size))).more hb4.size)
    refine (same_any wa w4.heap.size n4 c4 ns2 c A4 A b b hr6 hr7 (by have := HN1.out; have := HNL.out; have := hr6.1; omega) rfl).mono ?_
    rintro e w9 ⟨rfl, q9, rfl⟩
    go_wp2_with fail
    go_ret
    have hz := hb5.trans (hba.mono hb5.size)
    exact ⟨rfl, ⟨hz.os, hz.tape, hz.output, hz.size, hz.block⟩⟩
end Go.Proofs.YtlopmioamhendaaGreat
