import Derived.Test.YtbcmiahggfgjjaaProg
import Derived.Test.YtbcmiahggfgjjaaAns7
namespace Go.Proofs.Ytbcmiahggfgjjaa
open Go.RowKit
set_option linter.unusedVariables false

theorem bd_u8 {x : Int} (h : (Lit.int .u8 x).wf = true) : 0 ≤ x ∧ x ≤ 255 := by
  simp [Lit.wf, IntKind.min, IntKind.max, IntKind.signed, IntKind.bits] at h
  omega

set_option maxHeartbeats 4000000 in
theorem windowRuns_walk (A : Option Addr) (n c : Nat) (l : List Int) (x y : Int) (w : World) (hr : RdI .u8 w w.heap.size A n l) (hn0 : n ≤ maxLen) (hwf : ∀ x ∈ l, (Lit.int .u8 x).wf = true) (hx : (Lit.int .u8 x).wf = true) (hy : (Lit.int .u8 y).wf = true) :
    Calls Try.prog 3 #[.slice A n c, .int .u8 x, .int .u8 y] w fun e w' => e = .returned (.bool true) ∧ Below w.heap.size w w' := by
  have bx := bd_u8 hx
  have by_ := bd_u8 hy
  have hnI : (n : Int) ≤ 9223372036854775807 := by unfold maxLen at hn0; omega
  clear hx hy hn0 hwf
  by_cases h0 : n = 0 ∨ 1000 < (n : Int)
  · have h0' : (n : Int) = 0 ∨ (¬ (n : Int) = 0 ∧ 1000 < (n : Int)) := by omega
    clear h0
    rcases h0' with h0 | ⟨h1, h0⟩
    all_goals
      go_enter Try.func3, Try.ntmps3
      go_wp2_with fail
      refine (winNew_any _).mono ?_
      rintro e w1 ⟨g, rfl, hw1, hb1⟩
      go_wp2_with fail
      refine (answers7_any _).mono ?_
      rintro e w2 ⟨rfl, hb2⟩
      have hb3 := hb1.trans (hb2.mono hb1.size)
      go_wp2_with fail
      refine (answers7_any _).mono ?_
      rintro e w4 ⟨rfl, hb4⟩
      have hb5 := hb3.trans (hb4.mono hb3.size)
      go_wp2
      go_ret
      exact ⟨rfl, hb5⟩
  · have hn1 : 1 ≤ (n : Int) ∧ (n : Int) ≤ 1000 := by omega
    have hn2 : ¬ (n : Int) = 0 ∧ ¬ 1000 < (n : Int) := by omega
    clear h0
    obtain ⟨X, rfl⟩ := Int.eq_ofNat_of_zero_le bx.1
    obtain ⟨Y, rfl⟩ := Int.eq_ofNat_of_zero_le by_.1
    obtain ⟨D, hD⟩ : ∃ D : Nat, X % n + 1 = D := ⟨_, rfl⟩
    have hDn : 1 ≤ D ∧ D ≤ n := by have := Nat.mod_lt X (show 0 < n by omega); omega
    have hDe : (X : Int) % (n : Int) + 1 = (D : Int) := by rw [← hD]; rfl
    obtain ⟨N, hYe⟩ : ∃ N : Nat, (Y : Int) + 1 = (N : Int) := ⟨Y + 1, rfl⟩
    have hN : 1 ≤ (N : Int) ∧ (N : Int) ≤ 256 := by omega
    obtain ⟨a0, rfl, hab, _⟩ := hr.2 (by omega)
    go_enter Try.func3, Try.ntmps3
    go_wp2_with fail
    refine (winNew_any _).mono ?_
    rintro e w1 ⟨g, rfl, hw1, hb1⟩
    go_wp2_with fail
    refine (answers7_any _).mono ?_
    rintro e w2 ⟨rfl, hb2⟩
    have hb3 := hb1.trans (hb2.mono hb1.size)
    have hw2 := hw1.keeps hb2
    have hr2 := hr.below hb3
    go_wp2_with fail
    refine (winAdd_any _ _ _ _ _ _ _ _ _ _ _ _ hw2 hr2 hb3.size (by omega)).mono ?_
    rintro e w3 ⟨A3, n3, c3, rfl, hw3, hg3, hf3⟩
    have hfoot : ∀ k, foot none g k → w.heap.size ≤ k := fun k hk => (hw2.foot_lo hk).1
    have hb4 := hb3.trans (hg3.below hfoot hb3.size)
    rw [addL_small (by rw [← hr.1]; simp; omega), List.nil_append] at hw3
    have hn3 : n = n3 := by rw [hw3.n_eq, hr.1]
    subst hn3
    go_wp2_with fail

    refine (copy_ok _ _ _ _ _ _ _ hw3 N D (by omega) (by omega)).mono ?_
    rintro e w4 ⟨g4, A4, n4, c4, rfl, ho4, hw4, hap, hg4, hf4⟩
    have hb5 := hb4.trans (hg4.below (fun k hk => (hw3.foot_lo hk).1) hb4.size)
    have hr4 := hr.below hb5
    have har := ho4.ar
    go_wp2_with fail
    go_loopw [12] (fun i wr => ∃ k q : Nat, k ≤ N ∧ i = .int .i64 k ∧ wr = w4.drewN q) (fun i _ => N - (intOf i).toNat)
    case atStart => exact ⟨0, 0, Nat.zero_le _, rfl, rfl⟩
    case round =>
      obtain ⟨k, q, hk, rfl, rfl⟩ := hrel
      by_cases hlt : k < N
      · have c1 := har.cell hlt
        rw [ix_cpL l D N hlt, ← hr.1] at c1
        obtain ⟨P, hP⟩ : ∃ P : Nat, n - D = P := ⟨_, rfl⟩
        have hwr : IntKind.i64.wrap ((n : Int) - (D : Int)) = (P : Int) := by rw [IntWalk.i64_in _ (by omega)]; omega
        obtain ⟨M, hM⟩ : ∃ M : Nat, k % D = M := ⟨_, rfl⟩
        have hMD := Nat.mod_lt k (show 0 < D by omega)
        have hMe : (k : Int) % (D : Int) = (M : Int) := by rw [← hM]; rfl
        have hMe2 : (k : Int).tmod (D : Int) = (M : Int) := by rw [← hM]; rfl
        rw [hP, hM] at c1
        obtain ⟨a1, ha1, _, c2⟩ := hr4.at_ (i := P + M) (by omega)
        cases ha1
        obtain ⟨v, hv⟩ : ∃ v : Int, ix l (P + M) = v := ⟨_, rfl⟩
        rw [hv] at c1 c2
        have hk0 : (0 : Int) ≤ k ∧ (k : Int) < N := by omega
        have hPM : (0 : Int) ≤ (P : Int) + (M : Int) ∧ (P : Int) + (M : Int) < n := by omega
        clear hv hM hP
        go_wp2

        go_quiet (fail)
        go_wp2
        go_roundw
        case rel => exact ⟨k + 1, _, by omega, by go_num, rfl⟩
        case measure => simp [intOf]; omega
      · obtain rfl : N = k := by omega
        go_wp2
        go_ret
        exact ⟨rfl, below_drewN hb5 q⟩
end Go.Proofs.Ytbcmiahggfgjjaa
