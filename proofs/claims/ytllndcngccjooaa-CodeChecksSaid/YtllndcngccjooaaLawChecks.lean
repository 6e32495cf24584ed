/-
  The walk of the law CodeChecks.
-/
import Derived.Test.YtllndcngccjooaaProg
import Derived.Test.YtllndcngccjooaaOwn
import Derived.Test.YtllndcngccjooaaRCodes
import Derived.Test.YtllndcngccjooaaRCheck
import Derived.Test.YtllndcngccjooaaAnswers
namespace Go.Proofs.Ytllndcngccjooaa
open Go.RowKit
set_option linter.unusedVariables false

theorem codesOf_long {l : List Int} (h : 288 < l.length) : codesOf l = [] := by unfold codesOf; rw [if_neg (by omega)]
theorem codes_all (A : Option Addr) (n c B : Nat) (l : List Int) (w : World) (hl : RdI .i64 w B A n l) (hB : B ≤ w.heap.size) :
    Calls Try.prog 12 #[.slice A n c] w fun e w' => ∃ G m d, e = .returned (.slice G m d) ∧ RdI .u32 w' w'.heap.size G m (codesOf l) ∧ Below w.heap.size w w' := by
  by_cases hn : n ≤ 288
  · exact (codes_any A n c B l w hl hB hn).mono fun e w' ⟨g, he, hr, hb⟩ => ⟨_, _, _, he, hr, hb⟩
  · refine (codes_long A n c w (by omega)).mono fun e w' ⟨he, hw⟩ => ⟨none, 0, 0, he, ?_, ?_⟩
    · rw [codesOf_long (by have := hl.1; omega)]; exact ⟨rfl, Rd.nil_⟩
    · rw [hw]; exact Below.refl _ _
theorem rcodes_all (A : Option Addr) (n c B : Nat) (l : List Int) (w : World) (hl : RdI .i64 w B A n l) (hB : B ≤ w.heap.size) :
    Calls Try.prog 13 #[.slice A n c] w fun e w' => ∃ G m d, e = .returned (.slice G m d) ∧ RdI .u32 w' w'.heap.size G m (codesOf l) ∧ Below w.heap.size w w' := by
  by_cases hn : n ≤ 288
  · exact (rcodes_any A n c B l w hl hB hn).mono fun e w' ⟨g, he, hr, hb⟩ => ⟨_, _, _, he, hr, hb⟩
  · refine (rcodes_long A n c w (by omega)).mono fun e w' ⟨he, hw⟩ => ⟨none, 0, 0, he, ?_, ?_⟩
    · rw [codesOf_long (by have := hl.1; omega)]; exact ⟨rfl, Rd.nil_⟩
    · rw [hw]; exact Below.refl _ _
theorem codesOf_le (l : List Int) : (codesOf l).length ≤ 288 := by
  unfold codesOf; split
  · simpa using by assumption
  · simp

theorem int_info : (Try.prog.info? 3).map (fun i => (i.zero, i.size, i.bytes)) = some (some (.int .i64 0), 1, 8) := by kernel_rfl

set_option maxHeartbeats 1000000 in
theorem codeChecks_walk (A : Option Addr) (n c : Nat) (l : List Int) (most : Int) (w : World) (hl : RdI .i64 w w.heap.size A n l) (hn0 : n ≤ maxLen) (hwf : ∀ x ∈ l, (Lit.int .i64 x).wf = true)
    (hmost : (Lit.int .i64 most).wf = true) :
    Calls Try.prog 4 #[.slice A n c, .int .i64 most] w fun e w' => e = .returned (.bool true) ∧ Below w.heap.size w w' := by
  have hnI : (n : Int) ≤ 9223372036854775807 := by unfold maxLen at hn0; omega
  clear hn0 hwf hmost
  obtain ⟨i0, hi, hz0, hz1, hz2⟩ := info_parts int_info
  have Hi := Lib.hid hi
  have Hz0 := Lib.hid hz0
  have Hz1 := Lib.hid hz1
  have Hz2 := Lib.hid hz2
  clear hi hz0 hz1 hz2
  by_cases h1 : (1000 : Int) < n
  · go_enter Try.func4, Try.ntmps4
    go_wp2_with (go_at_call 8; refine (answers_any _).mono ?_; rintro e w1 ⟨rfl, hb⟩)
    go_ret
    exact ⟨rfl, hb⟩
  · go_enter Try.func4, Try.ntmps4
    have hk : OwnI .i64 (w.alloc (.cells #[] 3)) w.heap.size 3 (some ⟨w.heap.size, 0, none⟩) 0 0 [] := OwnI.lit rfl [] _ (Nat.le_refl _) (by simp)
    go_wp2_with (at_builtin; go_must (refine wpList_app .i64 w.heap.size 3 i0 8 rfl _ _ _ rfl Try.underlying22 Hi.out Hz0.out Hz1.out Hz2.out rfl hk rfl (hl.alloc (Nat.le_refl _) _) (by omega) (by omega) (by simp) ?_); intro A2 c2 w2 hown hg hat)
    have hb2 : Below w.heap.size w w2 := below_grown (b0 := w.heap.size) ((Below.refl _ _).alloc (Nat.le_refl _) _) hg (by simp) (by simp [blkOf])
    have hr2 : RdI .i64 w2 w2.heap.size A2 n l := by have := hown.rd; rwa [Nat.zero_add, List.nil_append] at this
    clear hown hg hat hk
    refine (codes_all _ _ _ _ l _ hr2 (Nat.le_refl _)).mono ?_
    rintro e w3 ⟨G, m, d, rfl, hc, hb3⟩
    have hb3' := hb2.trans (hb3.mono hb2.size)
    go_wp2_with fail
    refine (rcodes_all _ _ _ _ l _ (hl.below hb3') hb3'.size).mono ?_
    rintro e w4 ⟨G', m', d', rfl, hc', hb4⟩
    have hb4' := hb3'.trans (hb4.mono hb3'.size)
    have hc4 := hc.below hb4
    have hmm : m = m' := by rw [hc.1, hc'.1]
    have hm2 : m ≤ 288 := by rw [hc.1]; exact codesOf_le l
    subst hmm
    go_wp2_with fail
    refine (answers_any _).mono ?_
    rintro e w5 ⟨rfl, hb5⟩
    have hb5' := hb4'.trans (hb5.mono hb4'.size)
    have hl5 := hl.below hb5'
    have hc5 := (hc4.more hb4.size).below hb5
    have hc5' := hc'.below hb5
    go_wp2_with fail
    refine (sum_any _ _ _ _ _ _ hl5 (by omega)).mono ?_
    rintro e w6 ⟨rfl, rfl⟩
    go_wp2_with fail
    refine (rsum_any _ _ _ _ _ _ hl5 (by omega)).mono ?_
    rintro e w6 ⟨rfl, rfl⟩
    obtain ⟨S, hS⟩ : ∃ S : Int, ((sumTo l n : Nat) : Int) = S := ⟨_, rfl⟩
    rw [hS]
    clear hS
    go_wp2_with fail
    refine (check_any _ _ _ _ _ _ _ hl5 (by omega)).mono ?_
    rintro e w6 ⟨rfl, rfl⟩
    go_wp2_with fail
    refine (rcheck_any _ _ _ _ _ _ _ hl5 (by omega)).mono ?_
    rintro e w6 ⟨rfl, rfl⟩
    obtain ⟨T, hT⟩ : ∃ T : Int, checkOf l most = T := ⟨_, rfl⟩
    rw [hT]
    clear hT
    go_wp2
    clear hc hc' hc4 hl5 hb3 hb4 hb5 hr2 hb2 hb3' hb4'
    go_loopw [7] (fun i wr => ∃ k q : Nat, k ≤ m ∧ i = .int .i64 k ∧ wr = w5.drewN q) (fun i _ => m - (intOf i).toNat)
    case atStart => exact ⟨0, 0, Nat.zero_le _, rfl, rfl⟩
    case round =>
      obtain ⟨k, q, hk, rfl, rfl⟩ := hrel
      by_cases hlt : k < m
      · obtain ⟨a1, rfl, _, e1⟩ := hc5.at_ hlt
        obtain ⟨a2, rfl, _, e2⟩ := hc5'.at_ hlt
        have hk0 : (0 : Int) ≤ k ∧ (k : Int) < m := by omega
        go_wp2
        go_quiet (fail)
        go_wp2
        go_roundw
        case rel => exact ⟨k + 1, _, by omega, by go_num, rfl⟩
        case measure => simp [intOf]; omega
      · obtain rfl : m = k := by omega
        go_wp2
        go_ret
        exact ⟨rfl, below_drewN hb5' _⟩
end Go.Proofs.Ytllndcngccjooaa
