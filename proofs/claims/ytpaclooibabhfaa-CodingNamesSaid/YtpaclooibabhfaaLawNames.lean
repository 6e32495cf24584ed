/-
  The walk of the law CodingNames.
-/
import Derived.Test.YtpaclooibabhfaaProg
import Derived.Test.YtpaclooibabhfaaNames
namespace Go.Proofs.Ytpaclooibabhfaa
open Go.RowKit
set_option linter.unusedVariables false

theorem nm_answers (w : World) : Calls Try.prog 4 #[] w fun e w' => e = .returned (.bool true) ∧ Below w.heap.size w w' := by
  have h0 : ofR (strOf (lowL ⟨#[88, 45, 71, 90, 73, 80]⟩)) = 1 := by decide +kernel
  have H0 := Lib.hid h0
  clear h0
  go_enter Try.func4, Try.ntmps4
  go_wp2_with fail
  refine (name_any _ _).mono ?_
  rintro e w1 ⟨rfl, rfl⟩
  go_wp2_with fail
  refine (of_any _ _ (by decide)).mono ?_
  rintro e w1 ⟨rfl, hb⟩
  rw [H0.out]
  go_wp2
  go_ret
  exact ⟨rfl, hb⟩

def nameOf (k : Int) : ByteArray := if k = 0 then ⟨#[105, 100, 101, 110, 116, 105, 116, 121]⟩ else if k = 1 then ⟨#[103, 122, 105, 112]⟩ else if k = 2 then ⟨#[100, 101, 102, 108, 97, 116, 101]⟩ else ⟨#[]⟩
theorem name_of (k : Int) (w : World) : Calls Try.prog 5 #[.int .i64 k] w fun e w' => e = .returned (.string (nameOf k)) ∧ w = w' := name_any k w

set_option maxHeartbeats 1600000 in
theorem codingNames_walk (k : Int) (s : ByteArray) (w : World) (hk : (Lit.int .i64 k).wf = true) (hs : s.size ≤ maxLen) :
    Calls Try.prog 3 #[.int .i64 k, .string s] w fun e w' => e = .returned (.bool true) ∧ Below w.heap.size w w' := by
  have hsI : (s.size : Int) ≤ 9223372036854775807 := by unfold maxLen at hs; omega
  clear hs hk
  by_cases h1 : (1000 : Int) < s.size
  · go_enter Try.func3, Try.ntmps3
    go_wp2_with fail
    refine (nm_answers _).mono ?_
    rintro e w1 ⟨rfl, hb⟩
    go_wp2
    go_ret
    exact ⟨rfl, hb⟩
  have hs2 : s.size ≤ 100000 := by omega
  by_cases h2 : k < 0 ∨ 2 < k
  · have hN := Lib.hid (show nameOf k = ⟨#[]⟩ by unfold nameOf; rw [if_neg (by omega), if_neg (by omega), if_neg (by omega)])
    have h2' : k < 0 ∨ (0 ≤ k ∧ 2 < k) := by omega
    clear h2
    rcases h2' with h2 | ⟨h2, h4⟩
    all_goals
      go_enter Try.func3, Try.ntmps3
      go_wp2_with fail
      refine (nm_answers _).mono ?_
      rintro e w1 ⟨rfl, hb⟩
      go_wp2_with fail
      refine (name_of _ _).mono ?_
      rintro e w2 ⟨rfl, rfl⟩
      rw [hN.out]
      go_wp2_with fail
      refine (of_any _ _ hs2).mono ?_
      rintro e w2 ⟨rfl, hb2⟩
      go_wp2_with fail
      refine (lof_any _ _ hs2).mono ?_
      rintro e w3 ⟨rfl, hb3⟩
      obtain ⟨T, hT⟩ : ∃ T : Int, ofR (strOf (lowL s)) = T := ⟨_, rfl⟩
      rw [hT]
      clear hT
      go_wp2
      go_ret
      exact ⟨rfl, (hb.trans (hb2.mono hb.size)).trans (hb3.mono (Nat.le_trans hb.size hb2.size))⟩
  have h3 : k = 0 ∨ k = 1 ∨ k = 2 := by omega
  clear h2
  rcases h3 with rfl | rfl | rfl
  all_goals
    go_enter Try.func3, Try.ntmps3
    go_wp2_with fail
    refine (nm_answers _).mono ?_
    rintro e w1 ⟨rfl, hb⟩
    have hbb := ((Below.refl w.heap.size w).alloc (Nat.le_refl _) (.cells #[.string ⟨#[105, 100, 101, 110, 116, 105, 116, 121]⟩, .string ⟨#[103, 122, 105, 112]⟩, .string ⟨#[100, 101, 102, 108, 97, 116, 101]⟩] 9)).trans (hb.mono (by simp))
    go_wp2_with fail
    refine (name_any _ _).mono ?_
    rintro e w2 ⟨rfl, rfl⟩
    go_wp2_with fail
    refine (of_any _ _ hs2).mono ?_
    rintro e w2 ⟨rfl, hb2⟩
    go_wp2_with fail
    refine (lof_any _ _ hs2).mono ?_
    rintro e w3 ⟨rfl, hb3⟩
    obtain ⟨T, hT⟩ : ∃ T : Int, ofR (strOf (lowL s)) = T := ⟨_, rfl⟩
    rw [hT]
    clear hT
    go_wp2
    go_ret
    exact ⟨rfl, (hbb.trans (hb2.mono hbb.size)).trans (hb3.mono (Nat.le_trans hbb.size hb2.size))⟩
end Go.Proofs.Ytpaclooibabhfaa
