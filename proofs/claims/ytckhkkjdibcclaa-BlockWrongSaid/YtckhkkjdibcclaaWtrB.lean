/-
  The walks of bits.Writer: Align, Take, Bits.
-/
import Derived.Test.YtckhkkjdibcclaaProg
import Derived.Test.YtckhkkjdibcclaaWtr
namespace Go.Proofs.Ytckhkkjdibcclaa
open Go.RowKit
set_option linter.unusedVariables false

theorem rest_none {L : List Int} (h : L.length % 8 = 0) : rest L = [] := List.eq_nil_of_length_eq_zero (by rw [rest_length, h])
theorem evn_same {L : List Int} (h : L.length % 8 = 0) : evn L = L := by unfold evn; rw [h]; simp
theorem evn_put {L : List Int} (h : L.length % 8 ≠ 0) : evn L = L ++ ofN 0 (8 - L.length % 8) := by unfold evn; rw [ofN_zero, Nat.mod_eq_of_lt (by omega)]
theorem evn_evn (L : List Int) : evn (evn L) = evn L := evn_same (evn_even L)
theorem wtrAlign_nil (w : World) : Calls Try.prog 18 #[.pointer none] w fun e w' => e = .returned (.tuple #[]) ∧ w = w' := by
  go_enter Try.func18, Try.ntmps18
  go_wp2
  go_end0
  exact ⟨rfl, rfl⟩
theorem wtrTake_nil (w : World) : Calls Try.prog 19 #[.pointer none] w fun e w' => e = .returned (.slice none 0 0) ∧ w = w' := by
  go_enter Try.func19, Try.ntmps19
  go_wp2
  go_ret
  exact ⟨rfl, rfl⟩
theorem wtrBits_nil (w : World) : Calls Try.prog 17 #[.pointer none] w fun e w' => e = .returned (.int .i64 0) ∧ w = w' := by
  go_enter Try.func17, Try.ntmps17
  go_wp2
  go_ret
  exact ⟨rfl, rfl⟩

set_option maxHeartbeats 1600000 in
theorem wtrAlign_any (w : World) (b0 g n c : Nat) (A : Option Addr) (L : List Int) (hw : Wtr w b0 g A n c L) (hlen : L.length ≤ 4000000000000) :
    Calls Try.prog 18 #[.pointer (some ⟨g, 0, none⟩)] w (WtrPost w b0 g A (evn L)) := by
  have c2 := hw.cell.cell (i := 2) (by omega)
  unfold wf at c2
  rw [rest_length] at c2
  by_cases h : L.length % 8 = 0
  · rw [h] at c2
    have hev : WtrPost w b0 g A (evn L) (.returned (.tuple #[])) w := by
      rw [evn_same h]
      exact ⟨A, n, c, rfl, hw, Chg.refl _ _, fun k hk => .inl hk⟩
    clear h
    go_enter Try.func18, Try.ntmps18
    go_wp2
    go_end0
    exact hev
  · have hp := evn_put h
    obtain ⟨T, hT⟩ : ∃ T : Nat, L.length % 8 = T := ⟨_, rfl⟩
    rw [hT] at c2 hp h
    have hTb : (T : Int) < 8 ∧ 0 < (T : Int) := by omega
    obtain ⟨M, hM⟩ : ∃ M : Nat, 8 - T = M := ⟨_, rfl⟩
    have hMI : (8 : Int) - (T : Int) = (M : Int) := by omega
    rw [hM] at hp
    have HP := Lib.hid hp
    have hM32 : (M : Int) ≤ 32 := by omega
    clear hp hT hM h
    go_enter Try.func18, Try.ntmps18
    go_wp2_with fail
    refine (put_ok _ _ _ _ _ _ _ hw 0 M (by omega) hM32 hlen).mono ?_
    rintro e w' ⟨A', n', c', rfl, r⟩
    go_wp2
    go_end0
    rw [HP.out]
    exact ⟨A', n', c', rfl, r⟩

set_option maxHeartbeats 1600000 in
theorem wtrBits_any (w : World) (b0 g n c : Nat) (A : Option Addr) (L : List Int) (hw : Wtr w b0 g A n c L) (hlen : L.length ≤ 4000000000000) :
    Calls Try.prog 17 #[.pointer (some ⟨g, 0, none⟩)] w fun e w' => e = .returned (.int .i64 L.length) ∧ ∃ q, w' = w.drewN q := by
  have c0 := hw.cell.cell (i := 0) (by omega)
  have c2 := hw.cell.cell (i := 2) (by omega)
  unfold wf at c0 c2
  rw [rest_length] at c2
  obtain ⟨T, hT⟩ : ∃ T : Nat, L.length % 8 = T := ⟨_, rfl⟩
  rw [hT] at c2
  have hn : n ≤ 500000000001 := by have := hw.n_eq; omega
  have hnI : (n : Int) ≤ 500000000001 ∧ (0 : Int) ≤ n := by omega
  have hTI : (T : Int) < 8 ∧ (0 : Int) ≤ T := by omega
  have hsum : Hid ((8 * (n : Int) + (T : Int)) = (L.length : Int)) := by show _ = _; have := hw.n_eq; omega
  have hw1 : IntKind.i64.wrap (8 * (n : Int)) = 8 * (n : Int) := by rw [IntWalk.i64_in _ (by omega)]
  have hw2 : IntKind.i64.wrap (8 * (n : Int) + (T : Int)) = 8 * (n : Int) + (T : Int) := by rw [IntWalk.i64_in _ (by omega)]
  clear hT
  go_enter Try.func17, Try.ntmps17
  go_wp2
  go_quiet (fail)
  go_wp2
  go_ret
  exact ⟨ret_int hsum.out, _, rfl⟩

theorem wtrTake_any (w : World) (b0 g n c : Nat) (A : Option Addr) (L : List Int) (hw : Wtr w b0 g A n c L) :
    Calls Try.prog 19 #[.pointer (some ⟨g, 0, none⟩)] w fun e w' => e = .returned (.slice A n c) ∧ OwnI .u8 w' b0 5 A n c (byt L) ∧ Wtr w' b0 g none 0 0 (rest L) ∧ Chg w w' (fun k => k = g) := by
  have c0 := hw.cell.cell (i := 0) (by omega)
  have z0 := hw.cell.frozen' (i := 0) (by omega)
  unfold wf at c0
  go_enter Try.func19, Try.ntmps19
  go_wp2
  go_ret
  have hrl : (rest L).length < 8 := by rw [rest_length]; omega
  refine ⟨rfl, hw.own.far (p := ⟨g, 0, none⟩) hw.apart _, ⟨(hw.cell.set_ (i := 0) (by omega) _).congr fun i hi => ?_, hw.lo, ?_, by simp [blkOf], hw.bit.rest⟩, (Chg.refl w (fun k => k = g)).setCell (p := ⟨g, 0, none⟩) (.inl rfl) _⟩
  · rw [rest_small hrl]
    obtain rfl | rfl | rfl : i = 0 ∨ i = 1 ∨ i = 2 := by omega
    all_goals rfl
  · rw [byt_small hrl]
    exact OwnI.nil_
end Go.Proofs.Ytckhkkjdibcclaa
