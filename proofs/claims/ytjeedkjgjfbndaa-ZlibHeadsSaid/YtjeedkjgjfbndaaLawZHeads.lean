/-
  The walk of the law ZlibHeads.
-/
import Derived.Test.YtjeedkjgjfbndaaZlG
namespace Go.Proofs.Ytjeedkjgjfbndaa
open Go.RowKit
set_option linter.unusedVariables false
theorem zfin_none (u : List Int) (h : u.length ≤ 2) (m : Nat) : zFin u m = (start [] m, 5) := by
  unfold zFin
  rw [List.drop_eq_nil_of_le h]
  show (start [] m).fin = _
  have e : (start [] m).step = (start [] m, 5) := by
    unfold IS.step
    rw [if_pos (show (start [] m).st = 0 from rfl)]
    unfold IS.block
    rw [if_pos (show (start [] m).x.length < 3 by show 0 < 3; decide)]
  rw [IS.fin_stop (by rw [e]; show (5 : Int) ≠ 0; decide), e]
theorem zhead_e (u : List Int) (h : u.length ≤ 2) (m : Nat) : zE u m false = (if zHd u ≠ 0 then zHd u else 5) ∧ zAll u m = [] := by
  unfold zE zAll
  rw [zfin_none u h m]
  constructor
  · by_cases e : zHd u ≠ 0
    · rw [if_pos e, if_pos e]
    · rw [if_neg e, if_neg e, if_pos (show (5 : Int) ≠ 8 by decide)]
  · by_cases e : zHd u ≠ 0
    · rw [if_pos e]
    · rw [if_neg e]; rfl
set_option maxRecDepth 100000 in
set_option maxHeartbeats 4000000 in
theorem zheads_law (u v : Int) (w : World) (hu : (Lit.int .u8 u).wf = true) (hv : (Lit.int .u8 v).wf = true) :
    Calls Try.prog 3 #[.int .u8 u, .int .u8 v] w fun e w' => e = .returned (.bool true) ∧ Below w.heap.size w w' := by
  have hub := bounds_u8 hu
  have hvb := bounds_u8 hv
  clear hu hv
  have ex0 : ix [u, v] 0 = u := rfl
  have ex1 : ix [u, v] 1 = v := rfl
  have ey0 : ix [u] 0 = u := rfl
  obtain ⟨E1, hE1⟩ : ∃ E1, zE [u] 9 false = E1 := ⟨_, rfl⟩
  obtain ⟨E2, hE2⟩ : ∃ E2, zE [u, v] 9 false = E2 := ⟨_, rfl⟩
  have hz1 := zhead_e [u] (by simp) 9
  have hz2 := zhead_e [u, v] (by simp) 9
  have HZ := Lib.hid (⟨hE1, hE2, hz1.2, hz2.2⟩ : _ ∧ _ ∧ _ ∧ _)
  rw [hE1] at hz1
  rw [hE2] at hz2
  -- the four ways
  have hcs : (¬ (u % 16 = 8 ∧ u / 16 ≤ 7) ∧ E1 = 2 ∧ E2 = 2) ∨ ((u % 16 = 8 ∧ u / 16 ≤ 7) ∧ (256 * u + v) % 31 ≠ 0 ∧ E1 = 5 ∧ E2 = 2) ∨ ((u % 16 = 8 ∧ u / 16 ≤ 7) ∧ (256 * u + v) % 31 = 0 ∧ v / 32 % 2 ≠ 0 ∧ E1 = 5 ∧ E2 = 2) ∨ ((u % 16 = 8 ∧ u / 16 ≤ 7) ∧ (256 * u + v) % 31 = 0 ∧ v / 32 % 2 = 0 ∧ E1 = 5 ∧ E2 = 5) := by
    by_cases h1 : u % 16 = 8 ∧ u / 16 ≤ 7
    · have e1 : zHd [u] = 5 := zhd_one rfl h1.1 (by rw [ey0]; omega)
      have f1 : E1 = 5 := by rw [hz1.1, e1, if_pos (by decide)]
      by_cases h2 : (256 * u + v) % 31 = 0
      · by_cases h3 : v / 32 % 2 = 0
        · have e2 : zHd [u, v] = 0 := zhd_ok (Nat.le_refl _) h1.1 (by rw [ex0]; omega) h2 h3
          exact .inr (.inr (.inr ⟨h1, h2, h3, f1, by rw [hz2.1, e2, if_neg (by decide)]⟩))
        · have e2 : zHd [u, v] = 2 := zhd_bad2 (Nat.le_refl _) h1.1 (by rw [ex0]; omega) (.inr h3)
          exact .inr (.inr (.inl ⟨h1, h2, h3, f1, by rw [hz2.1, e2, if_pos (by decide)]⟩))
      · have e2 : zHd [u, v] = 2 := zhd_bad2 (Nat.le_refl _) h1.1 (by rw [ex0]; omega) (.inl h2)
        exact .inr (.inl ⟨h1, h2, f1, by rw [hz2.1, e2, if_pos (by decide)]⟩)
    · have h2 : u % 16 ≠ 8 ∨ 7 < u / 16 := by omega
      have e1 : zHd [u] = 2 := zhd_bad (Nat.le_refl _) h2
      have e2 : zHd [u, v] = 2 := zhd_bad (by simp) h2
      exact .inl ⟨h1, by rw [hz1.1, e1, if_pos (by decide)], by rw [hz2.1, e2, if_pos (by decide)]⟩
  have HCS := Lib.hid hcs
  have HUV := Lib.hid (⟨hub, hvb⟩ : _ ∧ _)
  clear hz1 hz2 hE1 hE2 ex0 ex1 ey0 hcs
  go_enter Try.func3, Try.ntmps3
  go_wp2_with fail
  refine (znew_any w 9 9 (by decide)).mono ?_
  rintro e w1 ⟨g1, D, rfl, hD, hb1⟩
  go_wp2_with fail
  refine (znew_any w1 9 9 (by decide)).mono ?_
  rintro e w2 ⟨g2, X, rfl, hX, hb2⟩
  have hXlo := hX.xlt
  have hDlo := hD.xlt
  have hD2 := hD.keeps hb2
  have hdis : ∀ k, D k → ¬ X k := fun k hk hx => by have := (hDlo k hk).2; have := (hXlo k hx).1; omega
  have hb02 := hb1.trans (hb2.mono hb1.size)
  have HW1 := Lib.hid hb1.size
  go_wp2_with fail
  refine (answers14_any w2).mono ?_
  rintro e w3 ⟨rfl, hb3⟩
  have hD3 := hD2.keeps hb3
  have hX3 := hX.keeps hb3
  have hb03 := hb02.trans (hb3.mono hb02.size)
  have hrl := RdI.lit .u8 w3 [u] 5
  have hba : Below w3.heap.size w3 (w3.alloc (.cells #[.int .u8 u] 5)) := (Below.refl _ w3).alloc (Nat.le_refl _) _
  have hD4 := hD3.keeps hba
  have hX4 := hX3.keeps hba
  have hb04 := Lib.hid (hb03.trans (hba.mono hb03.size))
  have hXlt4 : ∀ k, X k → k < (w3.alloc (.cells #[.int .u8 u] 5)).heap.size := fun k hk => (hX4.xlt k hk).2
  have HF := Lib.hid (zfeed_head _ _ g1 D [] 9 hD4 _ 1 1 _ [u] hrl (by intro q hq; simp at hq; omega) (by simp))
  have HP := Lib.hid (⟨hX4, hXlt4, hdis⟩ : _ ∧ _ ∧ _)
  clear hD hX hXlo hDlo hD2 hdis hD3 hX3 hrl hba hD4 hX4 hXlt4 hb1 hb2 hb3 hb02 hb03
  go_wp2_with fail
  refine HF.out.mono ?_
  rintro e w4 ⟨D4, rfl, hD4, x4⟩
  obtain ⟨hX4, hXlt4, hdis⟩ := HP.out
  have hX5 := hX4.chg x4.2.1 hdis
  have hdis4 := x4.dis hXlt4 hdis
  have hXlt5 : ∀ k, X k → k < w4.heap.size := fun k hk => (hX5.xlt k hk).2
  have hb5 := Lib.hid (hb04.out.trans x4.1)
  have HT := Lib.hid (ztake_any _ _ g1 D4 _ [] 9 false true hD4 (by decide) (by simp) 1 (by decide))
  have HP2 := Lib.hid (⟨hX5, hXlt5, hdis4⟩ : _ ∧ _ ∧ _)
  clear hX4 hXlt4 hdis hX5 hdis4 hXlt5 hD4 x4 HP HF
  go_wp2_with fail
  refine HT.out.mono ?_
  rintro e w5 ⟨A5, k5, c5, l5, r5, D5, rfl, _, _, _, x5, hz5⟩
  obtain ⟨hX5, hXlt5, hdis4⟩ := HP2.out
  have hX6 := hX5.chg x5.2.1 hdis4
  have hb6 := hb5.out.trans x5.1
  obtain ⟨-, hr5⟩ := zte_nil hz5 HZ.out.2.2.1 (by decide)
  rw [show zE ([] ++ [u]) 9 false = E1 from HZ.out.1] at hr5
  subst hr5
  have hrl := RdI.lit .u8 w5 [u, v] 5
  have hba : Below w5.heap.size w5 (w5.alloc (.cells #[.int .u8 u, .int .u8 v] 5)) := (Below.refl _ w5).alloc (Nat.le_refl _) _
  have hX7 := hX6.keeps hba
  have hb7 := Lib.hid (hb6.trans (hba.mono hb6.size))
  have HF := Lib.hid (zfeed_head _ _ g2 X [] 9 hX7 _ 2 2 _ [u, v] hrl (by intro q hq; simp at hq; have := HUV.out; omega) (by simp))
  clear hX5 hXlt5 hdis4 hX6 hb6 hrl hba hX7 x5 hz5 HP2 HT
  go_wp2_with fail
  refine HF.out.mono ?_
  rintro e w6 ⟨X6, rfl, hX8, x6⟩
  have hb8 := Lib.hid (hb7.out.trans (x6.1.mono HW1.out))
  have HT := Lib.hid (ztake_any _ _ g2 X6 _ [] 9 false true hX8 (by decide) (by simp) 1 (by decide))
  clear hX8 x6 HF
  go_wp2_with fail
  refine HT.out.mono ?_
  rintro e w7 ⟨A6, k6, c6, l6, r6, X7, rfl, _, _, _, x7, hz7⟩
  have hb9 := Lib.hid (hb8.out.trans (x7.1.mono HW1.out))
  obtain ⟨-, hr6⟩ := zte_nil hz7 HZ.out.2.2.2 (by decide)
  rw [show zE ([] ++ [u, v]) 9 false = E2 from HZ.out.2.1] at hr6
  subst hr6
  clear x7 hz7 HT HZ
  obtain ⟨hub, hvb⟩ := HUV.out
  obtain ⟨D, hD⟩ : ∃ D, 256 * u + v = D := ⟨_, rfl⟩
  have hDb : 0 ≤ D ∧ D < 65536 := by omega
  have hcs := HCS.out
  rw [hD] at hcs
  have hu16 : 0 ≤ u / 16 ∧ u / 16 ≤ 15 := by omega
  have hv32 : 0 ≤ v / 32 ∧ v / 32 ≤ 7 := by omega
  clear HCS HUV
  rcases hcs with ⟨h1, rfl, rfl⟩ | ⟨⟨h1, h2⟩, h3, rfl, rfl⟩ | ⟨⟨h1, h2⟩, h3, h4, rfl, rfl⟩ | ⟨⟨h1, h2⟩, h3, h4, rfl, rfl⟩
  · by_cases h8 : u % 16 = 8
    · have h8' : (u % 16 == 8) = true := by simpa using h8
      have h7 : ¬ u / 16 ≤ 7 := fun h => h1 ⟨h8, h⟩
      have h7' : decide (u / 16 ≤ 7) = false := decide_eq_false h7
      clear h1
      go_wp2_with fail
      go_ret
      exact ⟨by simp, hb9.out⟩
    · have h8' : (u % 16 == 8) = false := by simpa using h8
      clear h1
      go_wp2_with fail
      go_ret
      exact ⟨by simp, hb9.out⟩
  · have h8' : (u % 16 == 8) = true := by simpa using h1
    have h3' : (D % 31 == 0) = false := by simpa using h3
    go_wp2_with fail
    go_ret
    exact ⟨by simp, hb9.out⟩
  · have h8' : (u % 16 == 8) = true := by simpa using h1
    have h3' : (D % 31 == 0) = true := by simpa using h3
    have h4' : (v / 32 % 2 == 0) = false := by simpa using h4
    go_wp2_with fail
    go_ret
    exact ⟨by simp, hb9.out⟩
  · have h8' : (u % 16 == 8) = true := by simpa using h1
    have h3' : (D % 31 == 0) = true := by simpa using h3
    have h4' : (v / 32 % 2 == 0) = true := by simpa using h4
    go_wp2_with fail
    go_ret
    exact ⟨by simp, hb9.out⟩
end Go.Proofs.Ytjeedkjgjfbndaa
