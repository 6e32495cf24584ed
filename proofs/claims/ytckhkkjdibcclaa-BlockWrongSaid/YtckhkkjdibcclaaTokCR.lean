/-
  The walks of LenCode, DistCode and of the reference's. (written by gentokc.py)
-/
import Derived.Test.YtckhkkjdibcclaaProg
import Derived.Test.YtckhkkjdibcclaaTok
import Derived.Test.YtckhkkjdibcclaaTokR
namespace Go.Proofs.Ytckhkkjdibcclaa
open Go.RowKit
set_option linter.unusedVariables false
def CodePost (B E : Nat → Nat) (lo hi off : Int) (top : Nat) (n : Int) (w : World) (e : Ending) (w' : World) : Prop := (∃ v, e = .returned v ∧ CodeIs B E lo hi off top n v) ∧ w = w'
theorem lB_bdu : ∀ j, j < 29 → 1 ≤ lB j ∧ lB j ≤ 32768 := by decide +kernel
theorem dB_bdu : ∀ j, j < 30 → 1 ≤ dB j ∧ dB j ≤ 32768 := by decide +kernel

theorem lens_code (j : Nat) (hj : j < 29) (x : Int) (hx : x = 257 + (j : Int)) (w : World) : Calls Try.prog 26 #[.int .i64 x] w fun e w' => e = .returned (.tuple #[.int .i64 ((lB j : Nat) : Int), .int .i64 ((lE j : Nat) : Int), .bool true]) ∧ w = w' := by
  refine (lens_any x w).mono ?_
  rintro e w' ⟨rfl, rfl⟩
  subst hx
  have h1 : (257 + (j : Int) - 257).toNat = j := by omega
  refine ⟨?_, rfl⟩
  unfold lensV
  rw [if_pos (by omega), h1]

def lenCode_rRel (n : Int) (w : World) (y i : Value) (wr : World) : Prop := ∃ (j : Nat) (x b : Int), i = .int .i64 x ∧ y = .int .i64 b ∧ Hid (x = 257 + (j : Int)) ∧ (257 ≤ x ∧ x ≤ 285 + 1) ∧ wr = w ∧
  Hid (j = 0 ∨ ∃ k : Nat, k < j ∧ b = 257 + (k : Int) ∧ ((lB k : Nat) : Int) ≤ n ∧ ∀ i, k < i → i < j → n < ((lB i : Nat) : Int))
set_option maxHeartbeats 4000000 in
theorem rlenCode_any (n : Int) (w : World) : Calls Try.prog 9 #[.int .i64 n] w (CodePost lB lE 3 258 257 28 n w) := by
  by_cases hr : n < 3 ∨ 258 < n
  · have h : n < 3 ∨ (¬ n < 3 ∧ 258 < n) := by omega
    have hp : CodePost lB lE 3 258 257 28 n w (.returned (.tuple #[.int .i64 0, .int .i64 0, .int .i64 0])) w := ⟨⟨_, rfl, .inl ⟨hr, rfl⟩⟩, rfl⟩
    clear hr
    rcases h with h | ⟨h0, h⟩
    all_goals
      go_enter Try.func9, Try.ntmps9
      go_wp2
      go_ret3
      exact hp
  · have h1 : ¬ n < 3 ∧ ¬ 258 < n := by omega
    have hn : 3 ≤ n ∧ n ≤ 258 := by omega
    clear hr
    go_enter Try.func9, Try.ntmps9
    go_wp2
    go_loopw [5, 6] (lenCode_rRel n w) (fun _ i _ => (285 + 1 - intOf i).toNat)
    case atStart => exact ⟨0, 257, 0, rfl, rfl, by show _ = _; rfl, by omega, rfl, .inl rfl⟩
    case round =>
      obtain ⟨j, x, y, rfl, rfl, HX, hx, rfl, HA⟩ := hrel
      by_cases hend : x ≤ 285
      · have hj : j < 29 := by have := HX.out; omega
        have hlB := lB_bdu j hj
        obtain ⟨b, hb⟩ : ∃ b : Int, ((lB j : Nat) : Int) = b := ⟨_, rfl⟩
        obtain ⟨q, hq⟩ : ∃ q : Int, ((lE j : Nat) : Int) = q := ⟨_, rfl⟩
        have HB := Lib.hid hb
        have HQ := Lib.hid hq
        clear hb hq hlB hj
        by_cases hle : b ≤ n
        · go_wp2_with fail
          refine (lens_code j (by have := HX.out; omega) x HX.out _).mono ?_
          rintro e w' ⟨rfl, rfl⟩
          rw [HB.out, HQ.out]
          go_wp2
          go_roundw
          case rel =>
            refine ⟨j + 1, x + 1, x, rfl, rfl, ?_, by omega, rfl, .inr ⟨j, by omega, HX.out, by rw [HB.out]; exact hle, fun i h1 h2 => by omega⟩⟩
            have := HX.out
            show _ = _
            omega
          case measure => simp [intOf]; omega
        · have hlt : n < b := by omega
          have hj0 : j ≠ 0 := by
            rintro rfl
            have h3 := HB.out
            have h4 : lB 0 = 3 := rfl
            omega
          go_wp2_with fail
          refine (lens_code j (by have := HX.out; omega) x HX.out _).mono ?_
          rintro e w' ⟨rfl, rfl⟩
          rw [HB.out, HQ.out]
          go_wp2
          go_roundw
          case rel =>
            refine ⟨j + 1, x + 1, y, rfl, rfl, ?_, by omega, rfl, .inr ?_⟩
            · have := HX.out
              show _ = _
              omega
            · rcases HA.out with h | ⟨k, h1, h2, h3, h4⟩
              · exact absurd h hj0
              · refine ⟨k, by omega, h2, h3, fun i h5 h6 => ?_⟩
                by_cases he : i = j
                · subst he; rw [HB.out]; exact hlt
                · exact h4 i h5 (by omega)
          case measure => simp [intOf]; omega
      · have hjN : j = 29 := by have := HX.out; omega
        have hk : ∃ k : Nat, k < 29 ∧ y = 257 + (k : Int) ∧ Last_ lB 28 n k := by
          rcases HA.out with h | ⟨k, h1, h2, h3, h4⟩
          · omega
          · exact ⟨k, by omega, h2, by omega, h3, fun i h5 h6 => h4 i h5 (by omega)⟩
        obtain ⟨k, hk1, hk2, hk3⟩ := hk
        clear hjN HX HA
        have HY := Lib.hid hk2
        have HL := Lib.hid hk3
        have hlB := lB_bdu k hk1
        obtain ⟨b, hb⟩ : ∃ b : Int, ((lB k : Nat) : Int) = b := ⟨_, rfl⟩
        obtain ⟨q, hq⟩ : ∃ q : Int, ((lE k : Nat) : Int) = q := ⟨_, rfl⟩
        have hbb : 1 ≤ b ∧ b ≤ 32768 := by omega
        have HB := Lib.hid hb
        have HQ := Lib.hid hq
        have HK := Lib.hid hk1
        clear hb hq hlB hk1 hk2 hk3
        go_wp2_with fail
        refine (lens_code k HK.out y HY.out _).mono ?_
        rintro e w' ⟨rfl, rfl⟩
        rw [HB.out, HQ.out]
        go_wp2
        go_ret3
        refine ⟨⟨_, rfl, .inr ⟨hn, k, HL.out, ?_⟩⟩, rfl⟩
        show Value.tuple #[.int .i64 y, .int .i64 q, .int .i64 (n - b)] = _
        rw [HB.out, HQ.out, ← HY.out]

theorem dists_code (j : Nat) (hj : j < 30) (x : Int) (hx : x = 0 + (j : Int)) (w : World) : Calls Try.prog 27 #[.int .i64 x] w fun e w' => e = .returned (.tuple #[.int .i64 ((dB j : Nat) : Int), .int .i64 ((dE j : Nat) : Int), .bool true]) ∧ w = w' := by
  refine (dists_any x w).mono ?_
  rintro e w' ⟨rfl, rfl⟩
  subst hx
  have h1 : (0 + (j : Int) - 0).toNat = j := by omega
  refine ⟨?_, rfl⟩
  unfold distsV
  rw [if_pos (by omega), h1]

def distCode_rRel (n : Int) (w : World) (y i : Value) (wr : World) : Prop := ∃ (j : Nat) (x b : Int), i = .int .i64 x ∧ y = .int .i64 b ∧ Hid (x = 0 + (j : Int)) ∧ (0 ≤ x ∧ x ≤ 29 + 1) ∧ wr = w ∧
  Hid (j = 0 ∨ ∃ k : Nat, k < j ∧ b = 0 + (k : Int) ∧ ((dB k : Nat) : Int) ≤ n ∧ ∀ i, k < i → i < j → n < ((dB i : Nat) : Int))
set_option maxHeartbeats 4000000 in
theorem rdistCode_any (n : Int) (w : World) : Calls Try.prog 10 #[.int .i64 n] w (CodePost dB dE 1 32768 0 29 n w) := by
  by_cases hr : n < 1 ∨ 32768 < n
  · have h : n < 1 ∨ (¬ n < 1 ∧ 32768 < n) := by omega
    have hp : CodePost dB dE 1 32768 0 29 n w (.returned (.tuple #[.int .i64 0, .int .i64 0, .int .i64 0])) w := ⟨⟨_, rfl, .inl ⟨hr, rfl⟩⟩, rfl⟩
    clear hr
    rcases h with h | ⟨h0, h⟩
    all_goals
      go_enter Try.func10, Try.ntmps10
      go_wp2
      go_ret3
      exact hp
  · have h1 : ¬ n < 1 ∧ ¬ 32768 < n := by omega
    have hn : 1 ≤ n ∧ n ≤ 32768 := by omega
    clear hr
    go_enter Try.func10, Try.ntmps10
    go_wp2
    go_loopw [5, 6] (distCode_rRel n w) (fun _ i _ => (29 + 1 - intOf i).toNat)
    case atStart => exact ⟨0, 0, 0, rfl, rfl, by show _ = _; rfl, by omega, rfl, .inl rfl⟩
    case round =>
      obtain ⟨j, x, y, rfl, rfl, HX, hx, rfl, HA⟩ := hrel
      by_cases hend : x ≤ 29
      · have hj : j < 30 := by have := HX.out; omega
        have hdB := dB_bdu j hj
        obtain ⟨b, hb⟩ : ∃ b : Int, ((dB j : Nat) : Int) = b := ⟨_, rfl⟩
        obtain ⟨q, hq⟩ : ∃ q : Int, ((dE j : Nat) : Int) = q := ⟨_, rfl⟩
        have HB := Lib.hid hb
        have HQ := Lib.hid hq
        clear hb hq hdB hj
        by_cases hle : b ≤ n
        · go_wp2_with fail
          refine (dists_code j (by have := HX.out; omega) x HX.out _).mono ?_
          rintro e w' ⟨rfl, rfl⟩
          rw [HB.out, HQ.out]
          go_wp2
          go_roundw
          case rel =>
            refine ⟨j + 1, x + 1, x, rfl, rfl, ?_, by omega, rfl, .inr ⟨j, by omega, HX.out, by rw [HB.out]; exact hle, fun i h1 h2 => by omega⟩⟩
            have := HX.out
            show _ = _
            omega
          case measure => simp [intOf]; omega
        · have hlt : n < b := by omega
          have hj0 : j ≠ 0 := by
            rintro rfl
            have h3 := HB.out
            have h4 : dB 0 = 1 := rfl
            omega
          go_wp2_with fail
          refine (dists_code j (by have := HX.out; omega) x HX.out _).mono ?_
          rintro e w' ⟨rfl, rfl⟩
          rw [HB.out, HQ.out]
          go_wp2
          go_roundw
          case rel =>
            refine ⟨j + 1, x + 1, y, rfl, rfl, ?_, by omega, rfl, .inr ?_⟩
            · have := HX.out
              show _ = _
              omega
            · rcases HA.out with h | ⟨k, h1, h2, h3, h4⟩
              · exact absurd h hj0
              · refine ⟨k, by omega, h2, h3, fun i h5 h6 => ?_⟩
                by_cases he : i = j
                · subst he; rw [HB.out]; exact hlt
                · exact h4 i h5 (by omega)
          case measure => simp [intOf]; omega
      · have hjN : j = 30 := by have := HX.out; omega
        have hk : ∃ k : Nat, k < 30 ∧ y = 0 + (k : Int) ∧ Last_ dB 29 n k := by
          rcases HA.out with h | ⟨k, h1, h2, h3, h4⟩
          · omega
          · exact ⟨k, by omega, h2, by omega, h3, fun i h5 h6 => h4 i h5 (by omega)⟩
        obtain ⟨k, hk1, hk2, hk3⟩ := hk
        clear hjN HX HA
        have HY := Lib.hid hk2
        have HL := Lib.hid hk3
        have hdB := dB_bdu k hk1
        obtain ⟨b, hb⟩ : ∃ b : Int, ((dB k : Nat) : Int) = b := ⟨_, rfl⟩
        obtain ⟨q, hq⟩ : ∃ q : Int, ((dE k : Nat) : Int) = q := ⟨_, rfl⟩
        have hbb : 1 ≤ b ∧ b ≤ 32768 := by omega
        have HB := Lib.hid hb
        have HQ := Lib.hid hq
        have HK := Lib.hid hk1
        clear hb hq hdB hk1 hk2 hk3
        go_wp2_with fail
        refine (dists_code k HK.out y HY.out _).mono ?_
        rintro e w' ⟨rfl, rfl⟩
        rw [HB.out, HQ.out]
        go_wp2
        go_ret3
        refine ⟨⟨_, rfl, .inr ⟨hn, k, HL.out, ?_⟩⟩, rfl⟩
        show Value.tuple #[.int .i64 y, .int .i64 q, .int .i64 (n - b)] = _
        rw [HB.out, HQ.out, ← HY.out]
end Go.Proofs.Ytckhkkjdibcclaa
