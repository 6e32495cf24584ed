/-
  The walks of block.Cost and block.Write where nothing may be written; of a stored block's cost; of the statements' own answers, layer 10.
-/
import Derived.Test.YtckhkkjdibcclaaPk23
import Derived.Test.YtckhkkjdibcclaaPk22
import Derived.Test.YtckhkkjdibcclaaPk9
namespace Go.Proofs.Ytckhkkjdibcclaa
open Go.RowKit
set_option linter.unusedVariables false
set_option maxRecDepth 100000 in
set_option maxHeartbeats 2000000 in
theorem bcost_no (w : World) (kind : Int) (At : Option Addr) (nt ct : Nat) (toks : List Tok) (hT : RdT w w.heap.size At nt toks) (hnt : (nt : Int) ≤ 4611686018427387904) (Ar : Option Addr) (m cr : Nat) (hm : bkMay kind toks m = false) :
    Calls Try.prog 11 #[.int .i64 kind, .slice At nt ct, .slice Ar m cr] w fun e w' => e = .returned (.int .i64 (-1)) ∧ Below w.heap.size w w' := by
  have HM := Lib.hid (may_any w kind At nt ct toks hT hnt Ar m cr)
  have HF := Lib.hid hm
  clear hT hm
  go_enter Try.func11, Try.ntmps11
  go_wp2_with fail
  refine HM.out.mono ?_
  rintro e w1 ⟨rfl, hb1⟩
  rw [HF.out]
  go_wp2_with fail
  go_ret
  exact ⟨rfl, hb1⟩
set_option maxRecDepth 100000 in
set_option maxHeartbeats 2000000 in
theorem bcost_stored (w : World) (At : Option Addr) (nt ct : Nat) (toks : List Tok) (hT : RdT w w.heap.size At nt toks) (hnt : (nt : Int) ≤ 4611686018427387904) (Ar : Option Addr) (m cr : Nat) (hm : m ≤ 65535) :
    Calls Try.prog 11 #[.int .i64 0, .slice At nt ct, .slice Ar m cr] w fun e w' => e = .returned (.int .i64 (40 + 8 * (m : Int))) ∧ Below w.heap.size w w' := by
  have HM := Lib.hid (may_any w 0 At nt ct toks hT hnt Ar m cr)
  have HF := Lib.hid (show bkMay 0 toks m = true by unfold bkMay; rw [if_pos rfl]; exact decide_eq_true hm)
  have hmI : (0 : Int) ≤ (m : Int) ∧ (m : Int) ≤ 65535 := by omega
  clear hT hm
  go_enter Try.func11, Try.ntmps11
  go_wp2_with fail
  refine HM.out.mono ?_
  rintro e w1 ⟨rfl, hb1⟩
  rw [HF.out]
  go_wp2_with fail
  go_ret
  exact ⟨rfl, hb1⟩
set_option maxRecDepth 100000 in
set_option maxHeartbeats 4000000 in
theorem bwrite_no (w : World) (v0 : Value) (At : Option Addr) (nt ct : Nat) (toks : List Tok) (hT : RdT w w.heap.size At nt toks) (hnt : (nt : Int) ≤ 4611686018427387904) (Ar : Option Addr) (m cr : Nat) (last : Bool) (hm : ∀ k : Int, bkMay k toks m = false) :
    Calls Try.prog 24 #[v0, .slice At nt ct, .slice Ar m cr, .bool last] w fun e w' => e = .returned (.int .i64 (-1)) ∧ Below w.heap.size w w' := by
  have HT := Lib.hid (⟨hT, hnt, hm⟩ : _ ∧ _ ∧ _)
  clear hT hnt hm
  go_enter Try.func24, Try.ntmps24
  go_wp2_with fail
  go_loopg [9, 11] 3 (fun (gk : Nat) (v9 v11 : Value) wx => ∃ k : Nat, v9 = .int .i64 (-1) ∧ v11 = .int .i64 k ∧ k ≤ 3 ∧ Hid (Below w.heap.size w wx) ∧ Hid (gk = 3 - k))
  case atStart => exact ⟨0, rfl, rfl, by omega, Below.refl _ _, rfl⟩
  case round =>
    obtain ⟨k, rfl, rfl, hk, hb, hg⟩ := hrel
    by_cases hlt : k ≤ 2
    · have hkI : (k : Int) ≤ 2 ∧ (0 : Int) ≤ (k : Int) := by omega
      have hc := bcost_no wr (k : Int) At nt ct toks ((HT.out.1.below hb.out).more hb.out.size) HT.out.2.1 Ar m cr (HT.out.2.2 _)
      have HC := Lib.hid hc
      clear hc
      go_wp2_with fail
      refine HC.out.mono ?_
      rintro e w5 ⟨rfl, hb5⟩
      have hb6 := Lib.hid (hb.out.trans (hb5.mono hb.out.size))
      clear hb5
      go_wp2_with fail
      go_roundg (3 - (k + 1))
      case measure => have := hg.out; omega
      case rel => exact ⟨k + 1, rfl, by go_num, by omega, hb6, rfl⟩
    · have hkI : ¬ (k : Int) ≤ 2 := by omega
      go_wp2_with fail
      go_ret
      exact ⟨rfl, hb.out⟩
def bits10 : List Int := [] ++ ofN (if true = true then 1 else 0) 1 ++ ofN 1 2 ++ blkB fixL fixD []
theorem ans10_bits : byt (evn bits10) = [3, 0] := by decide +kernel
theorem ans10_len : bits10.length ≤ 4000000000000 := by
  have e : bits10.length = 10 := by decide +kernel
  rw [e]; decide
set_option maxRecDepth 100000 in
set_option maxHeartbeats 2000000 in
theorem answers10_any (w : World) : Calls Try.prog 8 #[] w fun e w' => e = .returned (.bool true) ∧ Below w.heap.size w w' := by
  go_enter Try.func8, Try.ntmps8
  go_wp2_with fail
  refine (wtrNew_any w).mono ?_
  rintro e w1 ⟨g, rfl, hw1, hb1⟩
  have hk := (wkind_fixed w1 w.heap.size g 0 0 none [] hw1 none 0 0 [] ⟨rfl, fun h => absurd h (by decide)⟩ (fun h => absurd h (by decide)) (fun t ht => by simp at ht) none 0 0 true (by decide) (by simp))
  rw [show ([] ++ ofN (if true = true then 1 else 0) 1 ++ ofN 1 2 ++ blkB fixL fixD [] : List Int) = bits10 from rfl] at hk
  have HK := Lib.hid hk
  clear hk
  have HB1 := Lib.hid (⟨hb1, hw1.lo⟩ : _ ∧ _)
  clear hb1 hw1
  go_wp2_with fail
  refine HK.out.mono ?_
  rintro e w2 ⟨rfl, h2⟩
  obtain ⟨⟨A2, n2, c2, hw2, hA2⟩, hc2⟩ := h2
  have HAL := Lib.hid (wtrAlign_any w2 w.heap.size g n2 c2 A2 _ hw2 ans10_len)
  have HC2 := Lib.hid (⟨hA2, hc2⟩ : _ ∧ _)
  clear hw2 hA2 hc2
  go_wp2_with fail
  refine HAL.out.mono ?_
  rintro e w3 ⟨A3, n3, c3, rfl, hw3, hc3, hA3⟩
  have HTK := Lib.hid (wtrTake_any w3 w.heap.size g n3 c3 A3 _ hw3)
  have HC3 := Lib.hid (⟨hw3, hc3, hA3⟩ : _ ∧ _ ∧ _)
  clear hw3 hc3 hA3
  go_wp2_with fail
  refine HTK.out.mono ?_
  rintro e w4 ⟨rfl, ho4, hw4, hc4⟩
  rw [ans10_bits] at ho4
  have hn3 : n3 = 2 := ho4.1
  have hb2 : Below w.heap.size w w2 := HB1.out.1.trans (HC2.out.2.below (fun k hk => by
    rcases hk with rfl | hk
    · exact HB1.out.2
    · simp [blkOf] at hk) HB1.out.1.size)
  have hb3 : Below w.heap.size w w3 := hb2.trans (HC3.out.2.1.below (fun k hk => by
    rcases hk with rfl | hk
    · exact HB1.out.2
    · rcases HC2.out.1 k hk with h | h
      · simp [blkOf] at h
      · exact Nat.le_trans HB1.out.1.size h) hb2.size)
  have hb4 := hb3.trans (hc4.below (fun k hk => by rw [hk]; exact HB1.out.2) hb3.size)
  have hr4 := ho4.rd
  subst hn3
  have hsm := same_any (w4.alloc (.cells #[.int .u8 3, .int .u8 0] 5)) (w4.heap.size + 1) 2 c3 2 2 A3 (some ⟨w4.heap.size, 0, none⟩) [3, 0] [3, 0] ((hr4.alloc (Nat.le_refl _) _).more (Nat.le_succ _)) (RdI.lit .u8 w4 [3, 0] 5) (by decide) rfl
  have HSM := Lib.hid hsm
  have HB4 := Lib.hid (hb4.alloc hb4.size (.cells #[.int .u8 3, .int .u8 0] 5))
  clear hsm hb4 hr4 hb3 hb2 ho4 hw4 hc4 HC2 HC3
  go_wp2_with fail
  refine HSM.out.mono ?_
  rintro e w5 ⟨rfl, q, rfl⟩
  have hb5 := Lib.hid (HB4.out.trans (Chg.below (b0 := w.heap.size) (Chg.drewN (Chg.refl (w4.alloc (.cells #[.int .u8 3, .int .u8 0] 5)) (fun _ => False)) q) (fun _ h => h.elim) HB4.out.size))
  go_wp2_with fail
  go_ret
  exact ⟨rfl, hb5.out⟩
end Go.Proofs.Ytckhkkjdibcclaa
