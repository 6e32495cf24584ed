/-
  The walks of LenCode, DistCode and of the reference's. (written by gentokc.py)
-/
import Derived.Test.YtckhkkjdibcclaaProg
import Derived.Test.YtckhkkjdibcclaaTok
import Derived.Test.YtckhkkjdibcclaaTokCR
import Derived.Test.YtckhkkjdibcclaaTokR
namespace Go.Proofs.Ytckhkkjdibcclaa
open Go.RowKit
set_option linter.unusedVariables false
def lenCodeRel (n : Int) (w : World) (i : Value) (wr : World) : Prop := ∃ (j : Nat) (x : Int), i = .int .i64 x ∧ Hid (x = 257 + (j : Int)) ∧ (257 ≤ x ∧ x ≤ 285) ∧ wr = w ∧ Hid (∀ i, j < i → i ≤ 28 → n < ((lB i : Nat) : Int))
set_option maxHeartbeats 4000000 in
theorem lenCode_any (n : Int) (w : World) : Calls Try.prog 46 #[.int .i64 n] w (CodePost lB lE 3 258 257 28 n w) := by
  by_cases hr : n < 3 ∨ 258 < n
  · have h : n < 3 ∨ (¬ n < 3 ∧ 258 < n) := by omega
    have hp : CodePost lB lE 3 258 257 28 n w (.returned (.tuple #[.int .i64 0, .int .i64 0, .int .i64 0])) w := ⟨⟨_, rfl, .inl ⟨hr, rfl⟩⟩, rfl⟩
    clear hr
    rcases h with h | ⟨h0, h⟩
    all_goals
      go_enter Try.func46, Try.ntmps46
      go_wp2
      go_ret3
      exact hp
  · have h1 : ¬ n < 3 ∧ ¬ 258 < n := by omega
    have hn : 3 ≤ n ∧ n ≤ 258 := by omega
    clear hr
    go_enter Try.func46, Try.ntmps46
    go_wp2
    go_loopw [2] (lenCodeRel n w) (fun i _ => (intOf i - 257).toNat)
    case atStart => exact ⟨28, 285, rfl, by show _ = _; rfl, by omega, rfl, fun i h1 h2 => by omega⟩
    case round =>
      obtain ⟨j, x, rfl, HX, hx, rfl, HA⟩ := hrel
      have hj : j < 29 := by have := HX.out; omega
      have hlB := lB_bdu j hj
      obtain ⟨b, hb⟩ : ∃ b : Int, ((lB j : Nat) : Int) = b := ⟨_, rfl⟩
      obtain ⟨q, hq⟩ : ∃ q : Int, ((lE j : Nat) : Int) = q := ⟨_, rfl⟩
      have hbb : 1 ≤ b ∧ b ≤ 32768 := by omega
      have HB := Lib.hid hb
      have HQ := Lib.hid hq
      clear hb hq hlB hj
      by_cases hle : b ≤ n
      · go_wp2_with fail
        refine (lenBase_code j (by have := HX.out; omega) x HX.out _).mono ?_
        rintro e w' ⟨rfl, rfl⟩
        rw [HB.out, HQ.out]
        go_wp2
        go_ret3
        refine ⟨⟨_, rfl, .inr ⟨hn, j, ⟨by have := HX.out; omega, by rw [HB.out]; exact hle, HA.out⟩, ?_⟩⟩, rfl⟩
        show Value.tuple #[.int .i64 x, .int .i64 q, .int .i64 (n - b)] = _
        rw [HB.out, HQ.out, ← HX.out]
      · have hlt : n < b := by omega
        have hx0 : 257 < x := by
          have h2 := HX.out
          have h3 := HB.out
          rcases Nat.eq_zero_or_pos j with rfl | hp
          · have h4 : lB 0 = 3 := rfl
            omega
          · omega
        go_wp2_with fail
        refine (lenBase_code j (by have := HX.out; omega) x HX.out _).mono ?_
        rintro e w' ⟨rfl, rfl⟩
        rw [HB.out, HQ.out]
        go_wp2
        go_roundw
        case rel =>
          refine ⟨j - 1, x - 1, rfl, ?_, by omega, rfl, ?_⟩
          · have := HX.out
            show _ = _
            omega
          · intro i h1 h2
            by_cases he : i = j
            · subst he; rw [HB.out]; exact hlt
            · exact HA.out i (by omega) h2
        case measure => simp [intOf]; omega

def distCodeRel (n : Int) (w : World) (i : Value) (wr : World) : Prop := ∃ (j : Nat) (x : Int), i = .int .i64 x ∧ Hid (x = 0 + (j : Int)) ∧ (0 ≤ x ∧ x ≤ 29) ∧ wr = w ∧ Hid (∀ i, j < i → i ≤ 29 → n < ((dB i : Nat) : Int))
set_option maxHeartbeats 4000000 in
theorem distCode_any (n : Int) (w : World) : Calls Try.prog 47 #[.int .i64 n] w (CodePost dB dE 1 32768 0 29 n w) := by
  by_cases hr : n < 1 ∨ 32768 < n
  · have h : n < 1 ∨ (¬ n < 1 ∧ 32768 < n) := by omega
    have hp : CodePost dB dE 1 32768 0 29 n w (.returned (.tuple #[.int .i64 0, .int .i64 0, .int .i64 0])) w := ⟨⟨_, rfl, .inl ⟨hr, rfl⟩⟩, rfl⟩
    clear hr
    rcases h with h | ⟨h0, h⟩
    all_goals
      go_enter Try.func47, Try.ntmps47
      go_wp2
      go_ret3
      exact hp
  · have h1 : ¬ n < 1 ∧ ¬ 32768 < n := by omega
    have hn : 1 ≤ n ∧ n ≤ 32768 := by omega
    clear hr
    go_enter Try.func47, Try.ntmps47
    go_wp2
    go_loopw [2] (distCodeRel n w) (fun i _ => (intOf i - 0).toNat)
    case atStart => exact ⟨29, 29, rfl, by show _ = _; rfl, by omega, rfl, fun i h1 h2 => by omega⟩
    case round =>
      obtain ⟨j, x, rfl, HX, hx, rfl, HA⟩ := hrel
      have hj : j < 30 := by have := HX.out; omega
      have hdB := dB_bdu j hj
      obtain ⟨b, hb⟩ : ∃ b : Int, ((dB j : Nat) : Int) = b := ⟨_, rfl⟩
      obtain ⟨q, hq⟩ : ∃ q : Int, ((dE j : Nat) : Int) = q := ⟨_, rfl⟩
      have hbb : 1 ≤ b ∧ b ≤ 32768 := by omega
      have HB := Lib.hid hb
      have HQ := Lib.hid hq
      clear hb hq hdB hj
      by_cases hle : b ≤ n
      · go_wp2_with fail
        refine (distBase_code j (by have := HX.out; omega) x HX.out _).mono ?_
        rintro e w' ⟨rfl, rfl⟩
        rw [HB.out, HQ.out]
        go_wp2
        go_ret3
        refine ⟨⟨_, rfl, .inr ⟨hn, j, ⟨by have := HX.out; omega, by rw [HB.out]; exact hle, HA.out⟩, ?_⟩⟩, rfl⟩
        show Value.tuple #[.int .i64 x, .int .i64 q, .int .i64 (n - b)] = _
        rw [HB.out, HQ.out, ← HX.out]
      · have hlt : n < b := by omega
        have hx0 : 0 < x := by
          have h2 := HX.out
          have h3 := HB.out
          rcases Nat.eq_zero_or_pos j with rfl | hp
          · have h4 : dB 0 = 1 := rfl
            omega
          · omega
        go_wp2_with fail
        refine (distBase_code j (by have := HX.out; omega) x HX.out _).mono ?_
        rintro e w' ⟨rfl, rfl⟩
        rw [HB.out, HQ.out]
        go_wp2
        go_roundw
        case rel =>
          refine ⟨j - 1, x - 1, rfl, ?_, by omega, rfl, ?_⟩
          · have := HX.out
            show _ = _
            omega
          · intro i h1 h2
            by_cases he : i = j
            · subst he; rw [HB.out]; exact hlt
            · exact HA.out i (by omega) h2
        case measure => simp [intOf]; omega

end Go.Proofs.Ytckhkkjdibcclaa
