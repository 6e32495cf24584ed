/-
  Several texts in one (written by pack2.py): TokCR, TokC, Sum, Alone, Check, Same, Cost, RCodes.
-/
import Derived.Test.YtckhkkjdibcclaaProg
import Derived.Test.YtckhkkjdibcclaaPk8
import Derived.Test.YtckhkkjdibcclaaTokR
import Derived.Test.YtckhkkjdibcclaaPk1
import Derived.Test.YtckhkkjdibcclaaPk3
/-
  The walks of LenCode, DistCode and of the reference's. (written by gentokc.py)
-/
namespace Go.Proofs.Ytckhkkjdibcclaa
open Go.RowKit
set_option linter.unusedVariables false
def CodePost (B E : Nat → Nat) (lo hi off : Int) (top : Nat) (n : Int) (w : World) (e : Ending) (w' : World) : Prop := (∃ v, e = .returned v ∧ CodeIs B E lo hi off top n v) ∧ w = w'
theorem lB_bdu : ∀ j, j < 29 → 1 ≤ lB j ∧ lB j ≤ 32768 := by decide +kernel
theorem dB_bdu : ∀ j, j < 30 → 1 ≤ dB j ∧ dB j ≤ 32768 := by decide +kernel

theorem lens_code (j : Nat) (hj : j < 29) (x : Int) (hx : x = 257 + (j : Int)) (w : World) : Calls Try.prog 26 #[.int .i64 x] w fun e w' => e = .returned (.tuple #[.int .i64 ((lB j : Nat) : Int), .int .i64 ((lE j : Nat) : Int), .bool true]) ∧ w = w' := by
  refine (lens_any x w).mono ?_
  rintro e w' ⟨rfl, rfl⟩
  subst hx
  have h1 : (257 + (j : Int) - 257).toNat = j := by omega
  refine ⟨?_, rfl⟩
  unfold lensV
  rw [if_pos (by omega), h1]

def lenCode_rRel (n : Int) (w : World) (y i : Value) (wr : World) : Prop := ∃ (j : Nat) (x b : Int), i = .int .i64 x ∧ y = .int .i64 b ∧ Hid (x = 257 + (j : Int)) ∧ (257 ≤ x ∧ x ≤ 285 + 1) ∧ wr = w ∧
  Hid (j = 0 ∨ ∃ k : Nat, k < j ∧ b = 257 + (k : Int) ∧ ((lB k : Nat) : Int) ≤ n ∧ ∀ i, k < i → i < j → n < ((lB i : Nat) : Int))
set_option maxHeartbeats 4000000 in
theorem rlenCode_any (n : Int) (w : World) : Calls Try.prog 9 #[.int .i64 n] w (CodePost lB lE 3 258 257 28 n w) := by
  by_cases hr : n < 3 ∨ 258 < n
  · have h : n < 3 ∨ (¬ n < 3 ∧ 258 < n) := by omega
    have hp : CodePost lB lE 3 258 257 28 n w (.returned (.tuple #[.int .i64 0, .int .i64 0, .int .i64 0])) w := ⟨⟨_, rfl, .inl ⟨hr, rfl⟩⟩, rfl⟩
    clear hr
    rcases h with h | ⟨h0, h⟩
    all_goals
      go_enter Try.func9, Try.ntmps9
      go_wp2
      go_ret3
      exact hp
  · have h1 : ¬ n < 3 ∧ ¬ 258 < n := by omega
    have hn : 3 ≤ n ∧ n ≤ 258 := by omega
    clear hr
    go_enter Try.func9, Try.ntmps9
    go_wp2
    go_loopw [5, 6] (lenCode_rRel n w) (fun _ i _ => (285 + 1 - intOf i).toNat)
    case atStart => exact ⟨0, 257, 0, rfl, rfl, by show _ = _; rfl, by omega, rfl, .inl rfl⟩
    case round =>
      obtain ⟨j, x, y, rfl, rfl, HX, hx, rfl, HA⟩ := hrel
      by_cases hend : x ≤ 285
      · have hj : j < 29 := by have := HX.out; omega
        have hlB := lB_bdu j hj
        obtain ⟨b, hb⟩ : ∃ b : Int, ((lB j : Nat) : Int) = b := ⟨_, rfl⟩
        obtain ⟨q, hq⟩ : ∃ q : Int, ((lE j : Nat) : Int) = q := ⟨_, rfl⟩
        have HB := Lib.hid hb
        have HQ := Lib.hid hq
        clear hb hq hlB hj
        by_cases hle : b ≤ n
        · go_wp2_with fail
          refine (lens_code j (by have := HX.out; omega) x HX.out _).mono ?_
          rintro e w' ⟨rfl, rfl⟩
          rw [HB.out, HQ.out]
          go_wp2
          go_roundw
          case rel =>
            refine ⟨j + 1, x + 1, x, rfl, rfl, ?_, by omega, rfl, .inr ⟨j, by omega, HX.out, by rw [HB.out]; exact hle, fun i h1 h2 => by omega⟩⟩
            have := HX.out
            show _ = _
            omega
          case measure => simp [intOf]; omega
        · have hlt : n < b := by omega
          have hj0 : j ≠ 0 := by
            rintro rfl
            have h3 := HB.out
            have h4 : lB 0 = 3 := rfl
            omega
          go_wp2_with fail
          refine (lens_code j (by have := HX.out; omega) x HX.out _).mono ?_
          rintro e w' ⟨rfl, rfl⟩
          rw [HB.out, HQ.out]
          go_wp2
          go_roundw
          case rel =>
            refine ⟨j + 1, x + 1, y, rfl, rfl, ?_, by omega, rfl, .inr ?_⟩
            · have := HX.out
              show _ = _
              omega
            · rcases HA.out with h | ⟨k, h1, h2, h3, h4⟩
              · exact absurd h hj0
              · refine ⟨k, by omega, h2, h3, fun i h5 h6 => ?_⟩
                by_cases he : i = j
                · subst he; rw [HB.out]; exact hlt
                · exact h4 i h5 (by omega)
          case measure => simp [intOf]; omega
      · have hjN : j = 29 := by have := HX.out; omega
        have hk : ∃ k : Nat, k < 29 ∧ y = 257 + (k : Int) ∧ Last_ lB 28 n k := by
          rcases HA.out with h | ⟨k, h1, h2, h3, h4⟩
          · omega
          · exact ⟨k, by omega, h2, by omega, h3, fun i h5 h6 => h4 i h5 (by omega)⟩
        obtain ⟨k, hk1, hk2, hk3⟩ := hk
        clear hjN HX HA
        have HY := Lib.hid hk2
        have HL := Lib.hid hk3
        have hlB := lB_bdu k hk1
        obtain ⟨b, hb⟩ : ∃ b : Int, ((lB k : Nat) : Int) = b := ⟨_, rfl⟩
        obtain ⟨q, hq⟩ : ∃ q : Int, ((lE k : Nat) : Int) = q := ⟨_, rfl⟩
        have hbb : 1 ≤ b ∧ b ≤ 32768 := by omega
        have HB := Lib.hid hb
        have HQ := Lib.hid hq
        have HK := Lib.hid hk1
        clear hb hq hlB hk1 hk2 hk3
        go_wp2_with fail
        refine (lens_code k HK.out y HY.out _).mono ?_
        rintro e w' ⟨rfl, rfl⟩
        rw [HB.out, HQ.out]
        go_wp2
        go_ret3
        refine ⟨⟨_, rfl, .inr ⟨hn, k, HL.out, ?_⟩⟩, rfl⟩
        show Value.tuple #[.int .i64 y, .int .i64 q, .int .i64 (n - b)] = _
        rw [HB.out, HQ.out, ← HY.out]

theorem dists_code (j : Nat) (hj : j < 30) (x : Int) (hx : x = 0 + (j : Int)) (w : World) : Calls Try.prog 27 #[.int .i64 x] w fun e w' => e = .returned (.tuple #[.int .i64 ((dB j : Nat) : Int), .int .i64 ((dE j : Nat) : Int), .bool true]) ∧ w = w' := by
  refine (dists_any x w).mono ?_
  rintro e w' ⟨rfl, rfl⟩
  subst hx
  have h1 : (0 + (j : Int) - 0).toNat = j := by omega
  refine ⟨?_, rfl⟩
  unfold distsV
  rw [if_pos (by omega), h1]

def distCode_rRel (n : Int) (w : World) (y i : Value) (wr : World) : Prop := ∃ (j : Nat) (x b : Int), i = .int .i64 x ∧ y = .int .i64 b ∧ Hid (x = 0 + (j : Int)) ∧ (0 ≤ x ∧ x ≤ 29 + 1) ∧ wr = w ∧
  Hid (j = 0 ∨ ∃ k : Nat, k < j ∧ b = 0 + (k : Int) ∧ ((dB k : Nat) : Int) ≤ n ∧ ∀ i, k < i → i < j → n < ((dB i : Nat) : Int))
set_option maxHeartbeats 4000000 in
theorem rdistCode_any (n : Int) (w : World) : Calls Try.prog 10 #[.int .i64 n] w (CodePost dB dE 1 32768 0 29 n w) := by
  by_cases hr : n < 1 ∨ 32768 < n
  · have h : n < 1 ∨ (¬ n < 1 ∧ 32768 < n) := by omega
    have hp : CodePost dB dE 1 32768 0 29 n w (.returned (.tuple #[.int .i64 0, .int .i64 0, .int .i64 0])) w := ⟨⟨_, rfl, .inl ⟨hr, rfl⟩⟩, rfl⟩
    clear hr
    rcases h with h | ⟨h0, h⟩
    all_goals
      go_enter Try.func10, Try.ntmps10
      go_wp2
      go_ret3
      exact hp
  · have h1 : ¬ n < 1 ∧ ¬ 32768 < n := by omega
    have hn : 1 ≤ n ∧ n ≤ 32768 := by omega
    clear hr
    go_enter Try.func10, Try.ntmps10
    go_wp2
    go_loopw [5, 6] (distCode_rRel n w) (fun _ i _ => (29 + 1 - intOf i).toNat)
    case atStart => exact ⟨0, 0, 0, rfl, rfl, by show _ = _; rfl, by omega, rfl, .inl rfl⟩
    case round =>
      obtain ⟨j, x, y, rfl, rfl, HX, hx, rfl, HA⟩ := hrel
      by_cases hend : x ≤ 29
      · have hj : j < 30 := by have := HX.out; omega
        have hdB := dB_bdu j hj
        obtain ⟨b, hb⟩ : ∃ b : Int, ((dB j : Nat) : Int) = b := ⟨_, rfl⟩
        obtain ⟨q, hq⟩ : ∃ q : Int, ((dE j : Nat) : Int) = q := ⟨_, rfl⟩
        have HB := Lib.hid hb
        have HQ := Lib.hid hq
        clear hb hq hdB hj
        by_cases hle : b ≤ n
        · go_wp2_with fail
          refine (dists_code j (by have := HX.out; omega) x HX.out _).mono ?_
          rintro e w' ⟨rfl, rfl⟩
          rw [HB.out, HQ.out]
          go_wp2
          go_roundw
          case rel =>
            refine ⟨j + 1, x + 1, x, rfl, rfl, ?_, by omega, rfl, .inr ⟨j, by omega, HX.out, by rw [HB.out]; exact hle, fun i h1 h2 => by omega⟩⟩
            have := HX.out
            show _ = _
            omega
          case measure => simp [intOf]; omega
        · have hlt : n < b := by omega
          have hj0 : j ≠ 0 := by
            rintro rfl
            have h3 := HB.out
            have h4 : dB 0 = 1 := rfl
            omega
          go_wp2_with fail
          refine (dists_code j (by have := HX.out; omega) x HX.out _).mono ?_
          rintro e w' ⟨rfl, rfl⟩
          rw [HB.out, HQ.out]
          go_wp2
          go_roundw
          case rel =>
            refine ⟨j + 1, x + 1, y, rfl, rfl, ?_, by omega, rfl, .inr ?_⟩
            · have := HX.out
              show _ = _
              omega
            · rcases HA.out with h | ⟨k, h1, h2, h3, h4⟩
              · exact absurd h hj0
              · refine ⟨k, by omega, h2, h3, fun i h5 h6 => ?_⟩
                by_cases he : i = j
                · subst he; rw [HB.out]; exact hlt
                · exact h4 i h5 (by omega)
          case measure => simp [intOf]; omega
      · have hjN : j = 30 := by have := HX.out; omega
        have hk : ∃ k : Nat, k < 30 ∧ y = 0 + (k : Int) ∧ Last_ dB 29 n k := by
          rcases HA.out with h | ⟨k, h1, h2, h3, h4⟩
          · omega
          · exact ⟨k, by omega, h2, by omega, h3, fun i h5 h6 => h4 i h5 (by omega)⟩
        obtain ⟨k, hk1, hk2, hk3⟩ := hk
        clear hjN HX HA
        have HY := Lib.hid hk2
        have HL := Lib.hid hk3
        have hdB := dB_bdu k hk1
        obtain ⟨b, hb⟩ : ∃ b : Int, ((dB k : Nat) : Int) = b := ⟨_, rfl⟩
        obtain ⟨q, hq⟩ : ∃ q : Int, ((dE k : Nat) : Int) = q := ⟨_, rfl⟩
        have hbb : 1 ≤ b ∧ b ≤ 32768 := by omega
        have HB := Lib.hid hb
        have HQ := Lib.hid hq
        have HK := Lib.hid hk1
        clear hb hq hdB hk1 hk2 hk3
        go_wp2_with fail
        refine (dists_code k HK.out y HY.out _).mono ?_
        rintro e w' ⟨rfl, rfl⟩
        rw [HB.out, HQ.out]
        go_wp2
        go_ret3
        refine ⟨⟨_, rfl, .inr ⟨hn, k, HL.out, ?_⟩⟩, rfl⟩
        show Value.tuple #[.int .i64 y, .int .i64 q, .int .i64 (n - b)] = _
        rw [HB.out, HQ.out, ← HY.out]
end Go.Proofs.Ytckhkkjdibcclaa

/-
  The walks of LenCode, DistCode and of the reference's. (written by gentokc.py)
-/
namespace Go.Proofs.Ytckhkkjdibcclaa
open Go.RowKit
set_option linter.unusedVariables false
def lenCodeRel (n : Int) (w : World) (i : Value) (wr : World) : Prop := ∃ (j : Nat) (x : Int), i = .int .i64 x ∧ Hid (x = 257 + (j : Int)) ∧ (257 ≤ x ∧ x ≤ 285) ∧ wr = w ∧ Hid (∀ i, j < i → i ≤ 28 → n < ((lB i : Nat) : Int))
set_option maxHeartbeats 4000000 in
theorem lenCode_any (n : Int) (w : World) : Calls Try.prog 46 #[.int .i64 n] w (CodePost lB lE 3 258 257 28 n w) := by
  by_cases hr : n < 3 ∨ 258 < n
  · have h : n < 3 ∨ (¬ n < 3 ∧ 258 < n) := by omega
    have hp : CodePost lB lE 3 258 257 28 n w (.returned (.tuple #[.int .i64 0, .int .i64 0, .int .i64 0])) w := ⟨⟨_, rfl, .inl ⟨hr, rfl⟩⟩, rfl⟩
    clear hr
    rcases h with h | ⟨h0, h⟩
    all_goals
      go_enter Try.func46, Try.ntmps46
      go_wp2
      go_ret3
      exact hp
  · have h1 : ¬ n < 3 ∧ ¬ 258 < n := by omega
    have hn : 3 ≤ n ∧ n ≤ 258 := by omega
    clear hr
    go_enter Try.func46, Try.ntmps46
    go_wp2
    go_loopw [2] (lenCodeRel n w) (fun i _ => (intOf i - 257).toNat)
    case atStart => exact ⟨28, 285, rfl, by show _ = _; rfl, by omega, rfl, fun i h1 h2 => by omega⟩
    case round =>
      obtain ⟨j, x, rfl, HX, hx, rfl, HA⟩ := hrel
      have hj : j < 29 := by have := HX.out; omega
      have hlB := lB_bdu j hj
      obtain ⟨b, hb⟩ : ∃ b : Int, ((lB j : Nat) : Int) = b := ⟨_, rfl⟩
      obtain ⟨q, hq⟩ : ∃ q : Int, ((lE j : Nat) : Int) = q := ⟨_, rfl⟩
      have hbb : 1 ≤ b ∧ b ≤ 32768 := by omega
      have HB := Lib.hid hb
      have HQ := Lib.hid hq
      clear hb hq hlB hj
      by_cases hle : b ≤ n
      · go_wp2_with fail
        refine (lenBase_code j (by have := HX.out; omega) x HX.out _).mono ?_
        rintro e w' ⟨rfl, rfl⟩
        rw [HB.out, HQ.out]
        go_wp2
        go_ret3
        refine ⟨⟨_, rfl, .inr ⟨hn, j, ⟨by have := HX.out; omega, by rw [HB.out]; exact hle, HA.out⟩, ?_⟩⟩, rfl⟩
        show Value.tuple #[.int .i64 x, .int .i64 q, .int .i64 (n - b)] = _
        rw [HB.out, HQ.out, ← HX.out]
      · have hlt : n < b := by omega
        have hx0 : 257 < x := by
          have h2 := HX.out
          have h3 := HB.out
          rcases Nat.eq_zero_or_pos j with rfl | hp
          · have h4 : lB 0 = 3 := rfl
            omega
          · omega
        go_wp2_with fail
        refine (lenBase_code j (by have := HX.out; omega) x HX.out _).mono ?_
        rintro e w' ⟨rfl, rfl⟩
        rw [HB.out, HQ.out]
        go_wp2
        go_roundw
        case rel =>
          refine ⟨j - 1, x - 1, rfl, ?_, by omega, rfl, ?_⟩
          · have := HX.out
            show _ = _
            omega
          · intro i h1 h2
            by_cases he : i = j
            · subst he; rw [HB.out]; exact hlt
            · exact HA.out i (by omega) h2
        case measure => simp [intOf]; omega

def distCodeRel (n : Int) (w : World) (i : Value) (wr : World) : Prop := ∃ (j : Nat) (x : Int), i = .int .i64 x ∧ Hid (x = 0 + (j : Int)) ∧ (0 ≤ x ∧ x ≤ 29) ∧ wr = w ∧ Hid (∀ i, j < i → i ≤ 29 → n < ((dB i : Nat) : Int))
set_option maxHeartbeats 4000000 in
theorem distCode_any (n : Int) (w : World) : Calls Try.prog 47 #[.int .i64 n] w (CodePost dB dE 1 32768 0 29 n w) := by
  by_cases hr : n < 1 ∨ 32768 < n
  · have h : n < 1 ∨ (¬ n < 1 ∧ 32768 < n) := by omega
    have hp : CodePost dB dE 1 32768 0 29 n w (.returned (.tuple #[.int .i64 0, .int .i64 0, .int .i64 0])) w := ⟨⟨_, rfl, .inl ⟨hr, rfl⟩⟩, rfl⟩
    clear hr
    rcases h with h | ⟨h0, h⟩
    all_goals
      go_enter Try.func47, Try.ntmps47
      go_wp2
      go_ret3
      exact hp
  · have h1 : ¬ n < 1 ∧ ¬ 32768 < n := by omega
    have hn : 1 ≤ n ∧ n ≤ 32768 := by omega
    clear hr
    go_enter Try.func47, Try.ntmps47
    go_wp2
    go_loopw [2] (distCodeRel n w) (fun i _ => (intOf i - 0).toNat)
    case atStart => exact ⟨29, 29, rfl, by show _ = _; rfl, by omega, rfl, fun i h1 h2 => by omega⟩
    case round =>
      obtain ⟨j, x, rfl, HX, hx, rfl, HA⟩ := hrel
      have hj : j < 30 := by have := HX.out; omega
      have hdB := dB_bdu j hj
      obtain ⟨b, hb⟩ : ∃ b : Int, ((dB j : Nat) : Int) = b := ⟨_, rfl⟩
      obtain ⟨q, hq⟩ : ∃ q : Int, ((dE j : Nat) : Int) = q := ⟨_, rfl⟩
      have hbb : 1 ≤ b ∧ b ≤ 32768 := by omega
      have HB := Lib.hid hb
      have HQ := Lib.hid hq
      clear hb hq hdB hj
      by_cases hle : b ≤ n
      · go_wp2_with fail
        refine (distBase_code j (by have := HX.out; omega) x HX.out _).mono ?_
        rintro e w' ⟨rfl, rfl⟩
        rw [HB.out, HQ.out]
        go_wp2
        go_ret3
        refine ⟨⟨_, rfl, .inr ⟨hn, j, ⟨by have := HX.out; omega, by rw [HB.out]; exact hle, HA.out⟩, ?_⟩⟩, rfl⟩
        show Value.tuple #[.int .i64 x, .int .i64 q, .int .i64 (n - b)] = _
        rw [HB.out, HQ.out, ← HX.out]
      · have hlt : n < b := by omega
        have hx0 : 0 < x := by
          have h2 := HX.out
          have h3 := HB.out
          rcases Nat.eq_zero_or_pos j with rfl | hp
          · have h4 : dB 0 = 1 := rfl
            omega
          · omega
        go_wp2_with fail
        refine (distBase_code j (by have := HX.out; omega) x HX.out _).mono ?_
        rintro e w' ⟨rfl, rfl⟩
        rw [HB.out, HQ.out]
        go_wp2
        go_roundw
        case rel =>
          refine ⟨j - 1, x - 1, rfl, ?_, by omega, rfl, ?_⟩
          · have := HX.out
            show _ = _
            omega
          · intro i h1 h2
            by_cases he : i = j
            · subst he; rw [HB.out]; exact hlt
            · exact HA.out i (by omega) h2
        case measure => simp [intOf]; omega

end Go.Proofs.Ytckhkkjdibcclaa

/-
  The walks of code.Sum and of the reference's Sum.
-/
namespace Go.Proofs.Ytckhkkjdibcclaa
open Go.RowKit
set_option linter.unusedVariables false

theorem sum_step (s v : Nat) (hs : s ≤ 65536000) : wrap64 ((s : Int) + wrap64 (2 ^ (15 - v))) = ((s + p15 v : Nat) : Int) := by
  have h := p15_bd v
  rw [← p15_int, IntWalk.wrap64_in ((p15 v : Nat) : Int) (by omega), IntWalk.wrap64_in _ (by omega)]
  omega

theorem sum_any (A : Option Addr) (n c B : Nat) (l : List Int) (w : World) (hl : RdI .i64 w B A n l) (hn : n ≤ 1000) :
    Calls Try.prog 73 #[.slice A n c] w fun e w' => e = .returned (.int .i64 (sumTo l n)) ∧ w = w' := by
  go_enter Try.func73, Try.ntmps73
  go_wp2
  go_loop [3, 8] (fun s i => ∃ k : Nat, k ≤ n ∧ i = .int .i64 k ∧ s = .int .i64 (sumTo l k)) (fun _ i => n - (intOf i).toNat)
  case atStart => exact ⟨0, Nat.zero_le _, rfl, rfl⟩
  case round =>
    obtain ⟨k, hk, rfl, rfl⟩ := hrel
    have bd := sumTo_bd l k
    by_cases hlt : k < n
    · obtain ⟨a1, rfl, _, hc⟩ := hl.at_ hlt
      by_cases ht : 1 ≤ ix l k ∧ ix l k ≤ 15
      · obtain ⟨v, hv⟩ : ∃ v : Nat, ix l k = (v : Int) := ⟨(ix l k).toNat, by omega⟩
        have hs : sumTo l (k + 1) = sumTo l k + p15 v := by
          show sumTo l k + share (ix l k) = _
          rw [hv, share_yes (by omega) (by omega)]
        have HS := Lib.hid hs
        rw [hv] at hc ht
        have hb1 : (1 : Int) ≤ (v : Int) ∧ (v : Int) ≤ 15 := ht
        have b2 := p15_bd v
        clear hv hs
        go_wp2
        go_round
        case rel => exact ⟨k + 1, by omega, by go_num, by rw [HS.out, sum_step _ _ (by omega)]⟩
        case measure => simp [intOf]; omega
      · have hs : sumTo l (k + 1) = sumTo l k := by
          show sumTo l k + share (ix l k) = _
          rw [share_no ht]; rfl
        have HS := Lib.hid hs
        clear hs
        go_wp2
        all_goals
          go_round
          case rel => exact ⟨k + 1, by omega, by go_num, by rw [HS.out]⟩
          case measure => simp [intOf]; omega
    · obtain rfl : n = k := by omega
      go_wp2
      go_ret
      exact ⟨rfl, rfl⟩

end Go.Proofs.Ytckhkkjdibcclaa

/-
  The walks of code.alone and of the reference's Ints.
-/
namespace Go.Proofs.Ytckhkkjdibcclaa
open Go.RowKit
set_option linter.unusedVariables false

theorem lowTo_step {l : List Int} {k : Nat} (h : lowTo l k = true) (h1 : ix l k ≤ 1) : lowTo l (k + 1) = true := by
  unfold lowTo at *
  simp only [decide_eq_true_eq] at *
  intro i hi
  by_cases e : i = k
  · subst e; exact h1
  · exact h i (by omega)
theorem aloneB_no {l : List Int} {n k : Nat} (hk : k < n) (h : 1 < ix l k) : aloneB l n = false := by
  unfold aloneB lowTo
  rw [Bool.and_eq_false_iff]
  left
  rw [decide_eq_false_iff_not]
  intro hh
  have := hh k hk
  omega
theorem aloneB_of {l : List Int} {n : Nat} (h : lowTo l n = true) : aloneB l n = decide ((posTo l n : Int) ≤ 1) := by
  unfold aloneB
  rw [h, Bool.true_and]
  congr 1
  simp; omega

theorem alone_any (A : Option Addr) (n c B : Nat) (l : List Int) (w : World) (hl : RdI .i64 w B A n l) (hn : n ≤ 1000) :
    Calls Try.prog 74 #[.slice A n c] w fun e w' => e = .returned (.bool (aloneB l n)) ∧ w = w' := by
  go_enter Try.func74, Try.ntmps74
  go_wp2
  go_loop [3, 8] (fun s i => ∃ k : Nat, k ≤ n ∧ i = .int .i64 k ∧ s = .int .i64 (posTo l k) ∧ Hid (lowTo l k = true)) (fun _ i => n - (intOf i).toNat)
  case atStart => exact ⟨0, Nat.zero_le _, rfl, rfl, by simp [Hid, lowTo]⟩
  case round =>
    obtain ⟨k, hk, rfl, rfl, hlow⟩ := hrel
    have bd := posTo_le l k
    by_cases hlt : k < n
    · obtain ⟨a1, rfl, _, hc⟩ := hl.at_ hlt
      by_cases h0 : 0 < ix l k
      · have HS := Lib.hid (show posTo l (k + 1) = posTo l k + 1 by simp [posTo, h0])
        by_cases h1 : 1 < ix l k
        · have HN := Lib.hid (aloneB_no hlt h1)
          go_wp2
          go_ret
          exact ⟨ret_bool HN.out.symm, rfl⟩
        · go_wp2
          go_round
          case rel => exact ⟨k + 1, by omega, by go_num, by rw [HS.out]; go_num, lowTo_step hlow.out (by omega)⟩
          case measure => simp [intOf]; omega
      · have HS := Lib.hid (show posTo l (k + 1) = posTo l k by simp [posTo, h0])
        go_wp2
        go_round
        case rel => exact ⟨k + 1, by omega, by go_num, by rw [HS.out], lowTo_step hlow.out (by omega)⟩
        case measure => simp [intOf]; omega
    · obtain rfl : n = k := by omega
      go_wp2
      go_ret
      exact ⟨ret_bool (aloneB_of hlow.out).symm, rfl⟩
end Go.Proofs.Ytckhkkjdibcclaa

/-
  The walk of code.Check.
-/
namespace Go.Proofs.Ytckhkkjdibcclaa
open Go.RowKit
set_option linter.unusedVariables false

theorem checkOf_arg {l : List Int} {most : Int} (h : most < 1 ∨ 15 < most ∨ 288 < l.length) : checkOf l most = 1 := by unfold checkOf; rw [if_pos h]
theorem checkOf_in {l : List Int} {most : Int} {k : Nat} (hk : k < l.length) (h : ¬ (0 ≤ ix l k ∧ ix l k ≤ most)) : checkOf l most = 1 := by
  unfold checkOf
  by_cases h0 : most < 1 ∨ 15 < most ∨ 288 < l.length
  · rw [if_pos h0]
  · rw [if_neg h0, if_pos (inTo_not hk h)]
theorem checkOf_code {l : List Int} {most : Int} (h0 : ¬ (most < 1 ∨ 15 < most ∨ 288 < l.length)) (h1 : ∀ i, i < l.length → 0 ≤ ix l i ∧ ix l i ≤ most)
    (h : 32768 < sumTo l l.length ∨ (sumTo l l.length < 32768 ∧ aloneB l l.length = false)) : checkOf l most = 3 := by
  unfold checkOf
  rw [if_neg h0, if_neg (by rw [inTo_of h1]; simp), if_pos h]
theorem checkOf_ok {l : List Int} {most : Int} (h0 : ¬ (most < 1 ∨ 15 < most ∨ 288 < l.length)) (h1 : ∀ i, i < l.length → 0 ≤ ix l i ∧ ix l i ≤ most)
    (h : ¬ (32768 < sumTo l l.length ∨ (sumTo l l.length < 32768 ∧ aloneB l l.length = false))) : checkOf l most = 0 := by
  unfold checkOf
  rw [if_neg h0, if_neg (by rw [inTo_of h1]; simp), if_neg h]

set_option maxRecDepth 100000 in
set_option maxHeartbeats 1000000 in
theorem check_any (A : Option Addr) (n c B : Nat) (l : List Int) (most : Int) (w : World) (hl : RdI .i64 w B A n l) (hn : n ≤ 1000) :
    Calls Try.prog 66 #[.slice A n c, .int .i64 most] w fun e w' => e = .returned (.int .i64 (checkOf l most)) ∧ w = w' := by
  have hln := Lib.hid hl.1
  by_cases h0 : most < 1 ∨ 15 < most ∨ 288 < n
  · have HC := Lib.hid (checkOf_arg (l := l) (most := most) (by rw [← hln.out]; exact h0))
    by_cases h1 : most < 1
    · clear h0
      go_enter Try.func66, Try.ntmps66
      go_wp2
      go_ret
      exact ⟨ret_int HC.out.symm, rfl⟩
    · by_cases h2 : 15 < most
      · clear h0
        go_enter Try.func66, Try.ntmps66
        go_wp2
        go_ret
        exact ⟨ret_int HC.out.symm, rfl⟩
      · have h3 : 288 < n := by omega
        clear h0
        go_enter Try.func66, Try.ntmps66
        go_wp2
        go_ret
        exact ⟨ret_int HC.out.symm, rfl⟩
  · have H0 := Lib.hid (show ¬ (most < 1 ∨ 15 < most ∨ 288 < l.length) by rw [← hln.out]; exact h0)
    have hm : 1 ≤ most ∧ most ≤ 15 := by omega
    have hn2 : n ≤ 288 := by omega
    clear h0
    go_enter Try.func66, Try.ntmps66
    go_wp2
    go_loop [21] (fun i => ∃ k : Nat, k ≤ n ∧ i = .int .i64 k ∧ Hid (∀ j, j < k → 0 ≤ ix l j ∧ ix l j ≤ most)) (fun i => n - (intOf i).toNat)
    case atStart => exact ⟨0, Nat.zero_le _, rfl, fun j hj => absurd hj (by omega)⟩
    case round =>
      obtain ⟨k, hk, rfl, hin⟩ := hrel
      by_cases hlt : k < n
      · obtain ⟨a1, rfl, _, hc⟩ := hl.at_ hlt
        by_cases ht : 0 ≤ ix l k ∧ ix l k ≤ most
        · go_wp2
          go_round
          case rel =>
            refine ⟨k + 1, by omega, by go_num, fun j hj => ?_⟩
            by_cases e : j = k
            · subst e; exact ht
            · exact hin.out j (by omega)
          case measure => simp [intOf]; omega
        · have HC := Lib.hid (checkOf_in (most := most) (show k < l.length by rw [← hln.out]; exact hlt) ht)
          by_cases h1 : ix l k < 0
          · go_wp2
            go_ret
            exact ⟨ret_int HC.out.symm, rfl⟩
          · have h2 : most < ix l k := by omega
            go_wp2
            go_ret
            exact ⟨ret_int HC.out.symm, rfl⟩
      · obtain rfl : n = k := by omega
        have hin' := Lib.hid (show ∀ j, j < l.length → 0 ≤ ix l j ∧ ix l j ≤ most by rw [← hln.out]; exact hin.out)
        obtain ⟨S, hS⟩ : ∃ S : Int, ((sumTo l n : Nat) : Int) = S := ⟨_, rfl⟩
        have b1 : (0 : Int) ≤ S ∧ S ≤ 32768 * (n : Int) := by have := sumTo_bd l n; omega
        have HS := Lib.hid hS
        clear hS
        by_cases hs : (32768 : Int) < S
        · have HC := Lib.hid (checkOf_code H0.out hin'.out (.inl (by rw [← hln.out]; have := HS.out; omega)))
          go_wp2_with (first | (go_at_call 73; refine (sum_any _ _ _ _ _ _ hl hn).mono ?_; rintro e w' ⟨rfl, rfl⟩; rw [HS.out]) | (go_at_call 74; refine (alone_any _ _ _ _ _ _ hl hn).mono ?_; rintro e w' ⟨rfl, rfl⟩))
          go_ret
          exact ⟨ret_int HC.out.symm, rfl⟩
        · have hd1 : decide ((32768 : Int) < S) = false := by simpa using hs
          by_cases hs2 : S < 32768
          · cases hal : aloneB l n
            · have HC := Lib.hid (checkOf_code H0.out hin'.out (.inr (by rw [← hln.out]; exact ⟨by have := HS.out; omega, hal⟩)))
              have HA := Lib.hid hal
              clear hal
              go_wp2_with (first | (go_at_call 73; refine (sum_any _ _ _ _ _ _ hl hn).mono ?_; rintro e w' ⟨rfl, rfl⟩; rw [HS.out]) | (go_at_call 74; refine (alone_any _ _ _ _ _ _ hl hn).mono ?_; rintro e w' ⟨rfl, rfl⟩; rw [HA.out]))
              go_ret
              exact ⟨ret_int HC.out.symm, rfl⟩
            · have HC := Lib.hid (checkOf_ok H0.out hin'.out (by rw [← hln.out, hal]; have := HS.out; simp; omega))
              have HA := Lib.hid hal
              clear hal
              go_wp2_with (first | (go_at_call 73; refine (sum_any _ _ _ _ _ _ hl hn).mono ?_; rintro e w' ⟨rfl, rfl⟩; rw [HS.out]) | (go_at_call 74; refine (alone_any _ _ _ _ _ _ hl hn).mono ?_; rintro e w' ⟨rfl, rfl⟩; rw [HA.out]))
              go_ret
              exact ⟨ret_int HC.out.symm, rfl⟩
          · have HC := Lib.hid (checkOf_ok H0.out hin'.out (by rw [← hln.out]; have := HS.out; omega))
            go_wp2_with (first | (go_at_call 73; refine (sum_any _ _ _ _ _ _ hl hn).mono ?_; rintro e w' ⟨rfl, rfl⟩; rw [HS.out]) | (go_at_call 74; refine (alone_any _ _ _ _ _ _ hl hn).mono ?_; rintro e w' ⟨rfl, rfl⟩))
            go_ret
            exact ⟨ret_int HC.out.symm, rfl⟩
end Go.Proofs.Ytckhkkjdibcclaa

/-
  The walk of the reference's Same.
-/
namespace Go.Proofs.Ytckhkkjdibcclaa
open Go.RowKit
set_option linter.unusedVariables false

theorem same_any (w : World) (B n c m d : Nat) (A C : Option Addr) (l b : List Int) (hl : RdI .u8 w B A n l) (hb : RdI .u8 w B C m b) (hn : (n : Int) ≤ 1000000000) (he : l = b) :
    Calls Try.prog 22 #[.slice A n c, .slice C m d] w fun e w' => e = .returned (.bool true) ∧ ∃ q, w' = w.drewN q := by
  have hnm : n = m := by rw [hl.1, hb.1, he]
  subst hnm
  subst he
  go_enter Try.func22, Try.ntmps22
  go_wp2
  go_loopw [5] (fun i wr => ∃ k q : Nat, k ≤ n ∧ i = .int .i64 k ∧ wr = w.drewN q) (fun i _ => n - (intOf i).toNat)
  case atStart => exact ⟨0, 0, Nat.zero_le _, rfl, rfl⟩
  case round =>
    obtain ⟨k, q, hk, rfl, rfl⟩ := hrel
    by_cases hlt : k < n
    · obtain ⟨a1, rfl, _, hc⟩ := hl.at_ hlt
      obtain ⟨a2, rfl, _, hc2⟩ := hb.at_ hlt
      have hk0 : (0 : Int) ≤ k ∧ (k : Int) < n := by omega
      obtain ⟨v, hv⟩ : ∃ v : Int, ix l k = v := ⟨_, rfl⟩
      rw [hv] at hc hc2
      clear hv
      go_wp2
      go_quiet (fail)
      go_wp2
      go_roundw
      case rel => exact ⟨k + 1, _, by omega, by go_num, rfl⟩
      case measure => simp [intOf]; omega
    · obtain rfl : n = k := by omega
      go_wp2
      go_ret
      exact ⟨rfl, _, rfl⟩
end Go.Proofs.Ytckhkkjdibcclaa

/-
  The walk of code.Cost.
-/
namespace Go.Proofs.Ytckhkkjdibcclaa
open Go.RowKit
set_option linter.unusedVariables false

set_option maxHeartbeats 400000 in
theorem cost_any (A C : Option Addr) (n m c d : Nat) (l f : List Int) (w : World) (B : Nat) (hl : RdI .i64 w B A n l) (hf : RdI .i64 w B C m f) (hn : n ≤ 1000) (hm : m ≤ 1000) :
    Calls Try.prog 30 #[.slice A n c, .slice C m d] w fun e w' => e = .returned (.int .i64 (costTo l f (min n m))) ∧ ∃ q, w' = w.drewN q := by
  go_enter Try.func30, Try.ntmps30
  go_wp2
  all_goals
    go_loopw [5, 14] (fun s i wr => ∃ k : Nat, k ≤ min n m ∧ i = .int .i64 k ∧ s = .int .i64 (costTo l f k) ∧ ∃ q, wr = w.drewN q) (fun _ i _ => min n m - (intOf i).toNat)
    case atStart => exact ⟨0, Nat.zero_le _, rfl, rfl, 0, rfl⟩
    case round =>
      obtain ⟨k, hk, rfl, rfl, q, rfl⟩ := hrel
      by_cases hlt : k < min n m
      · have h1 := hl.at_ (i := k) (by omega)
        have h2 := hf.at_ (i := k) (by omega)
        obtain ⟨a1, rfl, _, hc1⟩ := h1
        obtain ⟨a2, rfl, _, hc2⟩ := h2
        have hkn : k < n := by omega
        have hkm : k < m := by omega
        have hk2 : (k : Int) < ((min n m : Nat) : Int) := by omega
        have bd := costTo_bd l f k (by omega)
        have bp := costOf_bd (ix l k) (ix f k)
        by_cases ht : 0 < ix l k ∧ 0 < ix f k ∧ ix f k ≤ 1048576 ∧ ix l k ≤ 1048576
        · obtain ⟨t1, t2, t3, t4⟩ := ht
          have he := costOf_yes t1 t2 t3 t4
          rw [he] at bp
          have hs : Hid (costTo l f (k + 1) = costTo l f k + ix l k * ix f k) := by show costTo l f k + costOf (ix l k) (ix f k) = _; rw [he]
          clear he
          go_wp2
          go_quiet (fail)
          go_wp2
          go_roundw
          case rel => exact ⟨k + 1, by omega, by go_num, by rw [hs.out], _, rfl⟩
          case measure => simp [intOf]; omega
        · have he := costOf_no ht
          have hs : Hid (costTo l f (k + 1) = costTo l f k) := by show costTo l f k + costOf (ix l k) (ix f k) = _; rw [he]; omega
          clear he
          go_wp2
          go_quiet (fail)
          go_wp2
          all_goals
            go_roundw
            case rel => exact ⟨k + 1, by omega, by go_num, by rw [hs.out], _, rfl⟩
            case measure => simp [intOf]; omega
      · have : k = min n m := by omega
        subst this
        go_wp2
        go_ret
        exact ⟨rfl, _, rfl⟩

end Go.Proofs.Ytckhkkjdibcclaa

/-
  The walk of the reference's Codes.
-/
namespace Go.Proofs.Ytckhkkjdibcclaa
open Go.RowKit
set_option linter.unusedVariables false
set_option maxHeartbeats 1000000 in
theorem rcodes_new (A : Option Addr) (n c B : Nat) (l : List Int) (w : World) (hl : RdI .i64 w B A n l) (hB : B ≤ w.heap.size) (hn : n ≤ 288) :
    Calls Try.prog 57 #[.slice A n c] w fun e w' => ∃ g, e = .returned (.slice (some ⟨g, 0, none⟩) n n) ∧ RdI .u32 w' w'.heap.size (some ⟨g, 0, none⟩) n (codesOf l) ∧ Below w.heap.size w w' ∧ w.heap.size ≤ g := by
  obtain ⟨i0, hi, hz0, hz1, hz2⟩ := info_parts codes_info
  have hln1 : n ≤ l.length ∧ l.length ≤ n := by have := hl.1; omega
  have hlnH := Lib.hid hl.1
  have hmk := fun W => run_make_zrow (P := Try.prog) 46 54 i0 (.int .u32 0) Try.underlying46 hi hz0 hz1 rfl .i64 .i64 n (by rw [hz2]; omega) (by omega) W
  have HM := Lib.hid hmk
  clear hmk hi hz0 hz1 hz2
  have hn1 : ¬ (288 < (n : Int)) := by omega
  have hm := HM.out w
  go_enter Try.func57, Try.ntmps57
  go_wp2
  clear hm
  have o1 : Ar (w.alloc (.cells (zrow n (.int .u32 0)) 54)) w.heap.size n (doneV l 1 0) := (Ar.zeros' n (.int .u32 0) 54 rfl).congr fun j _ => doneV_start l j
  have hb : Below w.heap.size w (w.alloc (.cells (zrow n (.int .u32 0)) 54)) := (Below.refl _ _).alloc (Nat.le_refl _) _
  obtain ⟨wp, hwp⟩ : ∃ wp : World, wp = w.alloc (.cells (zrow n (.int .u32 0)) 54) := ⟨_, rfl⟩
  rw [← hwp] at o1 hb ⊢
  clear hwp
  go_loopw [4, 5] (fun s i wr => ∃ v : Nat, 1 ≤ v ∧ v ≤ 16 ∧ i = .int .i64 v ∧ s = .int .u32 (preC l v) ∧ Ar wr w.heap.size n (doneV l v 0) ∧ Below w.heap.size w wr) (fun _ i _ => 16 - (intOf i).toNat)
  case atStart => exact ⟨1, by omega, by omega, rfl, by rw [preC_one]; rfl, o1, hb⟩
  case round =>
    obtain ⟨v, hv1, hv, rfl, rfl, o1, hb⟩ := hrel
    by_cases hlt : v < 16
    · have hx := Lib.hid (preC_nxt l hv1)
      have bd := nxt_bd l (by omega) (v := v) (by omega)
      have bp : preC l v ≤ 9437184 := by have := preC_nxt l hv1; omega
      go_wp2
      obtain ⟨wo, rfl⟩ : ∃ wo : World, wo = wr := ⟨_, rfl⟩
      go_loopw [4, 6] (fun s i wr => ∃ k : Nat, k ≤ n ∧ i = .int .i64 k ∧ s = .int .u32 ((nxt l v + cnt l k v : Nat) : Int) ∧ Ar wr w.heap.size n (doneV l v k) ∧ Below w.heap.size w wr) (fun _ i _ => n - (intOf i).toNat)
      case atStart => exact ⟨0, by omega, rfl, by rw [hx.out]; congr 1; simp [cnt]; omega, o1, hb⟩
      case round =>
        obtain ⟨k, hk, rfl, rfl, o1, hb⟩ := hrel
        by_cases hkn : k < n
        · obtain ⟨a1, rfl, _, hc⟩ := ((hl.more hB).below hb).at_ hkn
          have c2 := o1.cell hkn
          have z2 := o1.frozen' (i := k) (by omega)
          have b2 := cnt_le l k v
          by_cases he : ix l k = v
          · have hs := Lib.hid (show cnt l (k + 1) v = cnt l k v + 1 by simp [cnt, he])
            have HE := Lib.hid he
            rw [he] at hc
            clear he
            go_wp2
            go_roundw
            case rel => exact ⟨k + 1, by omega, by go_num, by rw [hs.out]; congr 1, (o1.set_ hkn _).congr fun j _ => doneV_hit hv1 (by omega) HE.out j, hb.setCell (Nat.le_refl _) _⟩
            case measure => simp [intOf]; omega
          · have hs := Lib.hid (show cnt l (k + 1) v = cnt l k v by simp [cnt, he])
            have he' : (ix l k == (v : Int)) = false := by simpa using he
            go_wp2
            go_roundw
            case rel => exact ⟨k + 1, by omega, by go_num, by rw [hs.out], o1.congr fun j _ => doneV_miss he j, hb⟩
            case measure => simp [intOf]; omega
        · obtain rfl : n = k := by omega
          go_wp2
          go_roundw
          case rel => exact ⟨v + 1, by omega, by omega, by go_num, by rw [preC_succ l hv1, ← hlnH.out], o1.congr fun j hj => by rw [← doneV_next l v j (by omega), ← hlnH.out], hb⟩
          case measure => simp [intOf]; omega
    · obtain rfl : 16 = v := by omega
      go_wp2
      go_ret
      refine ⟨_, rfl, ⟨by rw [codesOf_length l (by omega)]; omega, ?_⟩, hb, Nat.le_refl _⟩
      refine (o1.rd o1.lt (Nat.le_refl _)).congr fun i hi => ?_
      rw [doneV_end, ix_codesOf l (by omega) (by omega)]
theorem rcodes_any (A : Option Addr) (n c B : Nat) (l : List Int) (w : World) (hl : RdI .i64 w B A n l) (hB : B ≤ w.heap.size) (hn : n ≤ 288) :
    Calls Try.prog 57 #[.slice A n c] w fun e w' => ∃ g, e = .returned (.slice (some ⟨g, 0, none⟩) n n) ∧ RdI .u32 w' w'.heap.size (some ⟨g, 0, none⟩) n (codesOf l) ∧ Below w.heap.size w w' :=
  (rcodes_new A n c B l w hl hB hn).mono fun _ _ ⟨g, h1, h2, h3, _⟩ => ⟨g, h1, h2, h3⟩

theorem rcodes_long (A : Option Addr) (n c : Nat) (w : World) (hn : 288 < n) :
    Calls Try.prog 57 #[.slice A n c] w fun e w' => e = .returned (.slice none 0 0) ∧ w = w' := by
  have hn1 : (288 < (n : Int)) := by omega
  go_enter Try.func57, Try.ntmps57
  go_wp2
  go_ret
  exact ⟨rfl, rfl⟩
end Go.Proofs.Ytckhkkjdibcclaa
