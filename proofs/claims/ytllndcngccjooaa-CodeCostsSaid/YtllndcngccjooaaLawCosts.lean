/-
  The walk of the law CodeCosts.
-/
import Derived.Test.YtllndcngccjooaaProg
import Derived.Test.YtllndcngccjooaaBase
import Derived.Test.YtllndcngccjooaaCost
import Derived.Test.YtllndcngccjooaaAlone
import Derived.Test.YtllndcngccjooaaAnswers
namespace Go.Proofs.Ytllndcngccjooaa
open Go.RowKit
set_option linter.unusedVariables false

theorem costTo_lit : costTo [1, 2] [5, 7] 2 = 19 := by decide
set_option maxHeartbeats 1000000 in
theorem codeCosts_walk (A : Option Addr) (n c : Nat) (l : List Int) (C : Option Addr) (m d : Nat) (f : List Int) (w : World) (hl : RdI .i64 w w.heap.size A n l) (_ : n ≤ maxLen) (_ : ∀ x ∈ l, (Lit.int .i64 x).wf = true)
    (hf : RdI .i64 w w.heap.size C m f) (_ : m ≤ maxLen) (_ : ∀ x ∈ f, (Lit.int .i64 x).wf = true) :
    Calls Try.prog 3 #[.slice A n c, .slice C m d] w fun e w' => e = .returned (.bool true) ∧ Below w.heap.size w w' := by
  rename_i hn0 _ hm0 _
  have hnI : (n : Int) ≤ 9223372036854775807 := by unfold maxLen at hn0; omega
  have hmI : (m : Int) ≤ 9223372036854775807 := by unfold maxLen at hm0; omega
  clear hn0 hm0
  by_cases h1 : 1000 < n
  · have h1' : (1000 : Int) < n := by omega
    go_enter Try.func3, Try.ntmps3
    go_wp2_with (go_at_call 8; refine (answers_any _).mono ?_; rintro e w1 ⟨rfl, hb⟩)
    go_ret
    exact ⟨rfl, hb⟩
  · by_cases h2 : 1000 < m
    · have h1' : ¬ (1000 : Int) < n := by omega
      have h2' : (1000 : Int) < m := by omega
      go_enter Try.func3, Try.ntmps3
      go_wp2_with (go_at_call 8; refine (answers_any _).mono ?_; rintro e w1 ⟨rfl, hb⟩)
      go_ret
      exact ⟨rfl, hb⟩
    · have h1' : ¬ (1000 : Int) < n := by omega
      have h2' : ¬ (1000 : Int) < m := by omega
      have hc := Lib.hid costTo_lit
      go_enter Try.func3, Try.ntmps3
      go_wp2_with fail
      refine (answers_any _).mono ?_
      rintro e w1 ⟨rfl, hb⟩
      have hl1 := hl.below hb
      have hf1 := hf.below hb
      go_wp2_with fail
      refine (cost_any _ _ _ _ _ _ _ _ _ _ hl1 hf1 (by omega) (by omega)).mono ?_
      rintro e w2 ⟨rfl, q1, rfl⟩
      go_wp2_with fail
      refine (rcost_any _ _ _ _ _ _ _ _ _ _ (hl1.drewN _) (hf1.drewN _) (by omega) (by omega)).mono ?_
      rintro e w2 ⟨rfl, q, rfl⟩
      obtain ⟨K, hK⟩ : ∃ K : Int, K = costTo l f (min n m) := ⟨_, rfl⟩
      rw [← hK]
      clear hK
      go_wp2_with fail
      refine (cost_any _ _ _ _ _ _ [1, 2] [5, 7] _ _ (((RdI.lit' .i64 rfl [1, 2] 3).alloc (by simp) _).more (Nat.le_succ _)) (RdI.lit' .i64 (by simp) [5, 7] 3) (by simp) (by simp)).mono ?_
      rintro e w2 ⟨rfl, q2, rfl⟩
      rw [show min [(1 : Int), 2].length [(5 : Int), 7].length = 2 from rfl, hc.out]
      go_wp2_with fail
      have hb2 := (((below_drewN hb (q1 + q)).alloc (by simpa using hb.size) (.cells #[.int .i64 1, .int .i64 2] 3)).alloc (by have := hb.size; simp; omega) (.cells #[.int .i64 5, .int .i64 7] 3))
      refine (ints_any _ _ _ _ _ _ ((hl.below hb2).drewN _) (by omega)).mono ?_
      rintro e w3 ⟨rfl, q3, rfl⟩
      go_wp2
      go_ret
      exact ⟨rfl, below_drewN hb2 _⟩
end Go.Proofs.Ytllndcngccjooaa
