/-
  The walk of the statement TableNone.
-/
import Derived.Test.YtjkmejcglhnnaaaProg
import Derived.Test.YtjkmejcglhnnaaaAns6
import Derived.Test.YtjkmejcglhnnaaaTabW
namespace Go.Proofs.Ytjkmejcglhnnaaa
open Go.RowKit
set_option linter.unusedVariables false

set_option maxRecDepth 100000 in
set_option maxHeartbeats 4000000 in
theorem tableNone_law (A : Option Addr) (n c : Nat) (b : List Int) (N : Int) (w : World) (T : RdI .u8 w w.heap.size A n b ∧ n ≤ maxLen ∧ ∀ x ∈ b, (Lit.int .u8 x).wf = true) (hN : (Lit.int .i64 N).wf = true) :
    Calls Try.prog 4 #[.slice A n c, .int .i64 N] w fun e w' => e = .returned (.bool true) ∧ Below w.heap.size w w' := by
  obtain ⟨R, m0, f0⟩ := T
  have hn : (n : Int) ≤ 9223372036854775807 := by unfold maxLen at m0; omega
  have hby : ∀ x ∈ b, 0 ≤ x ∧ x < 256 := fun x hx => bounds_u8 (f0 x hx)
  clear m0 f0
  by_cases h1000 : 1000 < (n : Int)
  · go_enter Try.func4, Try.ntmps4
    go_wp2_with fail
    refine (answers6_any _).mono ?_
    rintro e w4 ⟨rfl, hb4⟩
    go_wp2
    go_ret
    exact ⟨rfl, hb4⟩
  · have hn1 : (n : Int) ≤ 1000 ∧ (0 : Int) ≤ n := by omega
    have HBN := Lib.hid R.1
    have hck : checkOf [0, 0] 15 = 0 := by decide
    go_enter Try.func4, Try.ntmps4
    go_wp2_with fail
    refine (rdrNew_any _).mono ?_
    rintro e w1 ⟨gr, rfl, hr1, hb1⟩
    go_wp2_with fail
    refine (wtrNew_any _).mono ?_
    rintro e w2 ⟨gw, rfl, hw2, hb2⟩
    have hr2 := hr1.keeps hb2
    have hbw2 := hb1.trans (hb2.mono hb1.size)
    go_wp2_with fail
    refine (rdrFeed_any _ _ _ _ _ _ _ _ _ _ _ _ b hr2 (R.below hbw2) hbw2.size hby (by have := HBN.out; simp; omega)).mono ?_
    rintro e w3 ⟨A3, n3, c3, rfl, hr3, hg3, hA3⟩
    rw [show ([] : List Int).drop (0 / 8) ++ b = b from rfl, show 0 % 8 = 0 from rfl] at hr3
    have hw3 := hw2.chg hg3 (fun q hq h => by
      rcases hq with hq | hq
      · have := hw2.lo; have := hr1.cell.lt; omega
      · cases hq)
    have hbw3 := hbw2.trans (hg3.below (fun q hq => hq ▸ hr2.lo) hbw2.size)
    go_wp2_with fail
    refine (next_nil _ _).mono ?_
    rintro e w4 ⟨rfl, rfl⟩
    go_wp2_with fail
    refine (build_ok _ _ _ _ _ [0, 0] 15 (RdI.lit .i64 w3 [0, 0] 3) (by simp) (by decide) hck).mono ?_
    rintro e w4 ⟨gt, rfl, ht4, hb4⟩
    have hb4 : Below w3.heap.size w3 w4 := ((Below.refl _ w3).alloc (Nat.le_refl _) _).trans (hb4.mono (by simp))
    have hr4 := hr3.keeps hb4
    have hw4 := hw3.keeps hb4
    have hbw4 := hbw3.trans (hb4.mono hbw3.size)
    have hgr3 := hr3.cell.lt
    have hlb : b.length ≤ 1000000000000 := by have := HBN.out; omega
    have hxl : Hid ((rb b 0).length = 8 * n) := by show _ = _; rw [rb_length, HBN.out]; rfl
    have hnx : nextOf [0, 0] (rb b 0) = if n = 0 then (0, 0, 5) else (0, 0, 3) := by
      have hl0 : lgT [0, 0] 15 = 0 := by decide
      unfold nextOf
      rw [hl0, Nat.min_zero]
      show (if fh [0, 0] (rb b 0) 0 ≠ 0 then _ else _) = _
      rw [if_neg (by simp [fh]), if_neg (by omega), hxl.out]
      by_cases h : n = 0
      · rw [if_pos ⟨rfl, by omega⟩, if_pos h]
      · rw [if_neg (fun hh => by omega), if_neg h]
    have HNX := Lib.hid hnx
    clear hnx
    by_cases hn0 : n = 0
    · have hn00 : (n : Int) = 0 := by omega
      have hNX : nextOf [0, 0] (rb b 0) = (0, 0, 5) := by rw [HNX.out, if_pos hn0]
      have HNX2 := Lib.hid hNX
      clear hNX hn0
      go_wp2_with fail
      refine (next_any _ _ _ _ _ _ _ _ _ _ _ _ ht4 (by decide) hr4 hlb (Nat.le_refl _) (fun k h1 h2 => by simp at h1; omega)).mono ?_
      rintro e w5 ⟨rfl, hr5, hg5⟩
      rw [HNX2.out] at hr5 ⊢
      have ht5 := ht4.chg hg5 (Nat.le_refl _) (fun k h1 h2 h3 => by simp at h1; omega)
      have hw5 := hw4.chg hg5 (fun q hq h => by
        rcases hq with hq | hq
        · have := hw2.lo; have := hr1.cell.lt; omega
        · cases hq)
      have hbw5 := hbw4.trans (hg5.below (fun q hq => hq ▸ hr4.lo) hbw4.size)
      go_wp2_with fail
      refine (answers6_any _).mono ?_
      rintro e w6 ⟨rfl, hb6⟩
      have ht6 := ht5.keeps hg5.size hb6
      have hw6 := hw5.keeps hb6
      have hr6 := hr5.keeps hb6
      have hbw6 := hbw5.trans (hb6.mono hbw5.size)
      go_wp2_with fail
      refine (twrite_nil _ _ _).mono ?_
      rintro e w7 ⟨rfl, rfl⟩
      go_wp2_with fail
      refine (twrite_not _ _ _ _ _ _ N ht6 (by decide) (by
        by_cases h : N < 0
        · exact .inl h
        · by_cases h2 : 2 ≤ N
          · exact .inr (.inl h2)
          · obtain rfl | rfl : N = 0 ∨ N = 1 := by omega
            · exact .inr (.inr rfl)
            · exact .inr (.inr rfl))).mono ?_
      rintro e w8 ⟨rfl, rfl⟩
      have hl8 : Hid (((8 * n3 - (0 + 0) : Nat) : Int) = 8 * (n : Int)) := by show _ = _; have := hr3.n_eq; have := HBN.out; omega
      go_wp2_with fail
      refine (rdrLeft_any _ _ _ _ _ _ _ _ hr6 hlb).mono ?_
      rintro e w9 ⟨rfl, q9, rfl⟩
      rw [hl8.out]
      have hw9 : Wtr (w6.drewN q9) _ _ _ _ _ _ := hw6.keeps (below_drewN (Below.refl _ _) q9)
      go_wp2_with fail
      refine (wtrBits_any _ _ _ _ _ _ _ hw9 (by simp)).mono ?_
      rintro e w10 ⟨rfl, q10, rfl⟩
      go_wp2
      go_ret
      exact ⟨rfl, below_drewN hbw6 (q9 + q10)⟩
    · have hn00 : ((n : Int) == 0) = false := by simpa using hn0
      have hNX : nextOf [0, 0] (rb b 0) = (0, 0, 3) := by rw [HNX.out, if_neg hn0]
      have HNX2 := Lib.hid hNX
      clear hNX hn0
      go_wp2_with fail
      refine (next_any _ _ _ _ _ _ _ _ _ _ _ _ ht4 (by decide) hr4 hlb (Nat.le_refl _) (fun k h1 h2 => by simp at h1; omega)).mono ?_
      rintro e w5 ⟨rfl, hr5, hg5⟩
      rw [HNX2.out] at hr5 ⊢
      have ht5 := ht4.chg hg5 (Nat.le_refl _) (fun k h1 h2 h3 => by simp at h1; omega)
      have hw5 := hw4.chg hg5 (fun q hq h => by
        rcases hq with hq | hq
        · have := hw2.lo; have := hr1.cell.lt; omega
        · cases hq)
      have hbw5 := hbw4.trans (hg5.below (fun q hq => hq ▸ hr4.lo) hbw4.size)
      go_wp2_with fail
      refine (answers6_any _).mono ?_
      rintro e w6 ⟨rfl, hb6⟩
      have ht6 := ht5.keeps hg5.size hb6
      have hw6 := hw5.keeps hb6
      have hr6 := hr5.keeps hb6
      have hbw6 := hbw5.trans (hb6.mono hbw5.size)
      go_wp2_with fail
      refine (twrite_nil _ _ _).mono ?_
      rintro e w7 ⟨rfl, rfl⟩
      go_wp2_with fail
      refine (twrite_not _ _ _ _ _ _ N ht6 (by decide) (by
        by_cases h : N < 0
        · exact .inl h
        · by_cases h2 : 2 ≤ N
          · exact .inr (.inl h2)
          · obtain rfl | rfl : N = 0 ∨ N = 1 := by omega
            · exact .inr (.inr rfl)
            · exact .inr (.inr rfl))).mono ?_
      rintro e w8 ⟨rfl, rfl⟩
      have hl8 : Hid (((8 * n3 - (0 + 0) : Nat) : Int) = 8 * (n : Int)) := by show _ = _; have := hr3.n_eq; have := HBN.out; omega
      go_wp2_with fail
      refine (rdrLeft_any _ _ _ _ _ _ _ _ hr6 hlb).mono ?_
      rintro e w9 ⟨rfl, q9, rfl⟩
      rw [hl8.out]
      have hw9 : Wtr (w6.drewN q9) _ _ _ _ _ _ := hw6.keeps (below_drewN (Below.refl _ _) q9)
      go_wp2_with fail
      refine (wtrBits_any _ _ _ _ _ _ _ hw9 (by simp)).mono ?_
      rintro e w10 ⟨rfl, q10, rfl⟩
      go_wp2
      go_ret
      exact ⟨rfl, below_drewN hbw6 (q9 + q10)⟩
end Go.Proofs.Ytjkmejcglhnnaaa
