import Derived.Test.YtbcmiahggfgjjaaProg
import Derived.Test.YtbcmiahggfgjjaaSound
namespace Go.Proofs.Ytbcmiahggfgjjaa
open Go.RowKit
set_option linter.unusedVariables false

theorem CodeIs.shape {B E : Nat → Nat} {lo hi off : Int} {top : Nat} {n : Int} {v : Value} (h : CodeIs B E lo hi off top n v) : ∃ a b c : Int, v = .tuple #[.int .i64 a, .int .i64 b, .int .i64 c] := by
  rcases h with ⟨_, rfl⟩ | ⟨_, j, _, rfl⟩
  · exact ⟨_, _, _, rfl⟩
  · exact ⟨_, _, _, rfl⟩
theorem lenBase_any (x : Int) (hb : -9223372036854775808 ≤ x ∧ x ≤ 9223372036854775807) (w : World) : Calls Try.prog 23 #[.int .i64 x] w fun e w' => e = .returned (lensV x) ∧ w = w' := by
  by_cases h : 257 ≤ x ∧ x ≤ 285
  · obtain ⟨j, hj⟩ : ∃ j : Nat, x = 257 + (j : Int) := ⟨(x - 257).toNat, by omega⟩
    refine (lenBase_code j (by omega) x hj w).mono ?_
    rintro e w' ⟨rfl, rfl⟩
    refine ⟨?_, rfl⟩
    have h1 : (x - 257).toNat = j := by omega
    unfold lensV; rw [if_pos h, h1]
  · refine (lenBase_none x (by omega) hb w).mono ?_
    rintro e w' ⟨rfl, rfl⟩
    refine ⟨?_, rfl⟩
    unfold lensV; rw [if_neg h]
theorem distBase_any (x : Int) (w : World) : Calls Try.prog 25 #[.int .i64 x] w fun e w' => e = .returned (distsV x) ∧ w = w' := by
  by_cases h : 0 ≤ x ∧ x ≤ 29
  · obtain ⟨j, hj⟩ : ∃ j : Nat, x = 0 + (j : Int) := ⟨x.toNat, by omega⟩
    refine (distBase_code j (by omega) x hj w).mono ?_
    rintro e w' ⟨rfl, rfl⟩
    refine ⟨?_, rfl⟩
    have h1 : (x - 0).toNat = j := by omega
    unfold distsV; rw [if_pos h, h1]
  · refine (distBase_none x (by omega) w).mono ?_
    rintro e w' ⟨rfl, rfl⟩
    refine ⟨?_, rfl⟩
    unfold distsV; rw [if_neg h]
theorem lensV_shape (x : Int) : ∃ (a b : Int) (o : Bool), lensV x = .tuple #[.int .i64 a, .int .i64 b, .bool o] := by
  unfold lensV; split
  · exact ⟨_, _, _, rfl⟩
  · exact ⟨_, _, _, rfl⟩
theorem distsV_shape (x : Int) : ∃ (a b : Int) (o : Bool), distsV x = .tuple #[.int .i64 a, .int .i64 b, .bool o] := by
  unfold distsV; split
  · exact ⟨_, _, _, rfl⟩
  · exact ⟨_, _, _, rfl⟩

set_option maxHeartbeats 4000000 in
theorem tokenCodes_walk (x y : Int) (w : World) (hx : (Lit.int .i64 x).wf = true) (hy : (Lit.int .i64 y).wf = true) :
    Calls Try.prog 7 #[.int .i64 x, .int .i64 y] w fun e w' => e = .returned (.bool true) ∧ Below w.heap.size w w' := by
  have hyb := bounds_i64 hy
  clear hx hy
  go_enter Try.func7, Try.ntmps7
  go_wp2_with fail
  refine (lenCode_any x w).mono ?_
  rintro e w1 ⟨⟨v, rfl, hv⟩, rfl⟩
  obtain ⟨a, b, c, rfl⟩ := hv.shape
  go_wp2_with fail
  refine (rlenCode_any x w).mono ?_
  rintro e w1 ⟨⟨v, rfl, hv2⟩, rfl⟩
  have := CodeIs.uniq hv2 hv
  subst this
  clear hv hv2
  go_wp2_with fail
  refine (distCode_any x w).mono ?_
  rintro e w1 ⟨⟨v, rfl, hv⟩, rfl⟩
  obtain ⟨a2, b2, c2, rfl⟩ := hv.shape
  go_wp2_with fail
  refine (rdistCode_any x w).mono ?_
  rintro e w1 ⟨⟨v, rfl, hv2⟩, rfl⟩
  have := CodeIs.uniq hv2 hv
  subst this
  clear hv hv2
  go_wp2_with fail
  refine (answers8_any w).mono ?_
  rintro e w2 ⟨rfl, hb⟩
  obtain ⟨a3, b3, o3, h3⟩ := lensV_shape y
  have H3 := Lib.hid h3
  obtain ⟨a4, b4, o4, h4⟩ := distsV_shape y
  have H4 := Lib.hid h4
  clear h3 h4
  go_wp2_with fail
  refine (lenBase_any y hyb w2).mono ?_
  rintro e w3 ⟨rfl, rfl⟩
  rw [H3.out]
  go_wp2_with fail
  refine (lens_any y w2).mono ?_
  rintro e w3 ⟨rfl, rfl⟩
  rw [H3.out]
  go_wp2_with fail
  refine (distBase_any y w2).mono ?_
  rintro e w3 ⟨rfl, rfl⟩
  rw [H4.out]
  go_wp2_with fail
  refine (dists_any y w2).mono ?_
  rintro e w3 ⟨rfl, rfl⟩
  rw [H4.out]
  go_wp2
  go_ret
  exact ⟨rfl, hb⟩
end Go.Proofs.Ytbcmiahggfgjjaa
