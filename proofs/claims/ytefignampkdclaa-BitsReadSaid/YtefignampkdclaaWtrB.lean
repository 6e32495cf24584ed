/-
  The walks of bits.Writer: Align, Write, Take, Bits.
-/
import Derived.Test.YtefignampkdclaaProg
import Derived.Test.YtefignampkdclaaWtr
namespace Go.Proofs.Ytefignampkdclaa
open Go.RowKit
set_option linter.unusedVariables false

theorem rest_none {L : List Int} (h : L.length % 8 = 0) : rest L = [] := List.eq_nil_of_length_eq_zero (by rw [rest_length, h])
theorem evn_same {L : List Int} (h : L.length % 8 = 0) : evn L = L := by unfold evn; rw [h]; simp
theorem evn_put {L : List Int} (h : L.length % 8 ≠ 0) : evn L = L ++ ofN 0 (8 - L.length % 8) := by unfold evn; rw [ofN_zero, Nat.mod_eq_of_lt (by omega)]
theorem evn_evn (L : List Int) : evn (evn L) = evn L := evn_same (evn_even L)
theorem wtrAlign_nil (w : World) : Calls Try.prog 12 #[.pointer none] w fun e w' => e = .returned (.tuple #[]) ∧ w = w' := by
  go_enter Try.func12, Try.ntmps12
  go_wp2
  go_end0
  exact ⟨rfl, rfl⟩
theorem wtrWrite_nil (w : World) (v : Value) : Calls Try.prog 14 #[.pointer none, v] w fun e w' => e = .returned (.tuple #[]) ∧ w = w' := by
  go_enter Try.func14, Try.ntmps14
  go_wp2
  refine bodyPost_ret (results_none rfl _ _ _) rfl ?_
  exact ⟨rfl, rfl⟩
theorem wtrTake_nil (w : World) : Calls Try.prog 16 #[.pointer none] w fun e w' => e = .returned (.slice none 0 0) ∧ w = w' := by
  go_enter Try.func16, Try.ntmps16
  go_wp2
  go_ret
  exact ⟨rfl, rfl⟩
theorem wtrBits_nil (w : World) : Calls Try.prog 19 #[.pointer none] w fun e w' => e = .returned (.int .i64 0) ∧ w = w' := by
  go_enter Try.func19, Try.ntmps19
  go_wp2
  go_ret
  exact ⟨rfl, rfl⟩

set_option maxHeartbeats 1600000 in
theorem wtrAlign_any (w : World) (b0 g n c : Nat) (A : Option Addr) (L : List Int) (hw : Wtr w b0 g A n c L) (hlen : L.length ≤ 4000000000000) :
    Calls Try.prog 12 #[.pointer (some ⟨g, 0, none⟩)] w (WtrPost w b0 g A (evn L)) := by
  have c2 := hw.cell.cell (i := 2) (by omega)
  unfold wf at c2
  rw [rest_length] at c2
  by_cases h : L.length % 8 = 0
  · rw [h] at c2
    have hev : WtrPost w b0 g A (evn L) (.returned (.tuple #[])) w := by
      rw [evn_same h]
      exact ⟨A, n, c, rfl, hw, Chg.refl _ _, fun k hk => .inl hk⟩
    clear h
    go_enter Try.func12, Try.ntmps12
    go_wp2
    go_end0
    exact hev
  · have hp := evn_put h
    obtain ⟨T, hT⟩ : ∃ T : Nat, L.length % 8 = T := ⟨_, rfl⟩
    rw [hT] at c2 hp h
    have hTb : (T : Int) < 8 ∧ 0 < (T : Int) := by omega
    obtain ⟨M, hM⟩ : ∃ M : Nat, 8 - T = M := ⟨_, rfl⟩
    have hMI : (8 : Int) - (T : Int) = (M : Int) := by omega
    rw [hM] at hp
    have HP := Lib.hid hp
    have hM32 : (M : Int) ≤ 32 := by omega
    clear hp hT hM h
    go_enter Try.func12, Try.ntmps12
    go_wp2_with fail
    refine (put_ok _ _ _ _ _ _ _ hw 0 M (by omega) hM32 hlen).mono ?_
    rintro e w' ⟨A', n', c', rfl, r⟩
    go_wp2
    go_end0
    rw [HP.out]
    exact ⟨A', n', c', rfl, r⟩

set_option maxHeartbeats 1600000 in
theorem wtrWrite_any (w : World) (b0 g n c B m d : Nat) (A C : Option Addr) (L b : List Int) (hw : Wtr w b0 g A n c L) (hr : RdI .u8 w B C m b) (hB : B ≤ w.heap.size) (hsep : 0 < m → ∀ ad, C = some ad → ¬ foot A g ad.block) (hby : ∀ x ∈ b, 0 ≤ x ∧ x < 256) (hlen : L.length ≤ 4000000000000) (hm : (m : Int) ≤ 400000000000) :
    Calls Try.prog 14 #[.pointer (some ⟨g, 0, none⟩), .slice C m d] w (WtrPost w b0 g A (evn L ++ bts b)) := by
  obtain ⟨i0, hi, hz0, hz1, hz2⟩ := info_parts bbyte_info
  have Hi := Lib.hid hi
  have Hz0 := Lib.hid hz0
  have Hz1 := Lib.hid hz1
  have Hz2 := Lib.hid hz2
  clear hi hz0 hz1 hz2
  go_enter Try.func14, Try.ntmps14
  go_wp2_with fail
  refine (wtrAlign_any _ _ _ _ _ _ _ hw hlen).mono ?_
  rintro e w1 ⟨A1, n1, c1, rfl, hw1, hg1, hA1⟩
  have hr1 := hg1.rdI hr hB hsep
  have hcell := hw1.cell
  have k0 := hcell.cell (i := 0) (by omega)
  have z0 := hcell.frozen' (i := 0) (by omega)
  unfold wf at k0
  have hn1 : n1 ≤ 500000000001 := by have := hw1.n_eq; rw [evn_length] at this; omega
  have hb0 : b0 ≤ w1.heap.size := by have := hw1.lo; have := hw1.cell.lt; omega
  go_wp2_with (at_builtin; (refine wpList_app .u8 b0 5 i0 1 rfl (.tmp 12) (.tmp 13) _ rfl Try.underlying26 Hi.out Hz0.out Hz1.out Hz2.out rfl hw1.own rfl hr1 (by omega) (by omega) hb0 ?_)
               intro A2 c2 w2 hown hg hat
               have har2 := hcell.grown hg (fun e => hw1.apart e.symm)
               have k02 := har2.cell (i := 0) (by omega)
               have z02 := har2.frozen' (i := 0) (by omega))
  go_end0
  have hap2 : blkOf A2 ≠ some g := by
    rcases hat with e | e
    · rw [e]; exact hw1.apart
    · rw [e]; intro h; injection h with h; have := hcell.lt; omega
  have hby2 : byt (evn L ++ bts b) = byt (evn L) ++ b := by rw [byt_even (evn_even L), byt_bts hby]
  have hre : rest (evn L ++ bts b) = rest (evn L) := by rw [rest_even (evn_even L), rest_bts, rest_none (evn_even L)]
  refine ⟨A2, n1 + m, c2, rfl, ⟨(har2.set_ (i := 0) (by omega) _).congr fun i hi => ?_, hw1.lo, ?_, hap2, hw.bit.evn.app (Bit.bts b)⟩, ?_, ?_⟩
  · rw [hre]
    obtain rfl | rfl | rfl : i = 0 ∨ i = 1 ∨ i = 2 := by omega
    all_goals rfl
  · rw [hby2]
    exact hown.far (p := ⟨g, 0, none⟩) hap2 _
  · exact (hg1.grown hg fun k hk => (hA1 k hk).imp .inr id).setCell (p := ⟨g, 0, none⟩) (.inl (.inl rfl)) _
  · intro k hk
    rcases hat with e | e
    · exact hA1 k (e ▸ hk)
    · rw [e] at hk; injection hk with hk; have := hg1.size; exact .inr (by omega)

set_option maxHeartbeats 1600000 in
theorem wtrBits_any (w : World) (b0 g n c : Nat) (A : Option Addr) (L : List Int) (hw : Wtr w b0 g A n c L) (hlen : L.length ≤ 4000000000000) :
    Calls Try.prog 19 #[.pointer (some ⟨g, 0, none⟩)] w fun e w' => e = .returned (.int .i64 L.length) ∧ ∃ q, w' = w.drewN q := by
  have c0 := hw.cell.cell (i := 0) (by omega)
  have c2 := hw.cell.cell (i := 2) (by omega)
  unfold wf at c0 c2
  rw [rest_length] at c2
  obtain ⟨T, hT⟩ : ∃ T : Nat, L.length % 8 = T := ⟨_, rfl⟩
  rw [hT] at c2
  have hn : n ≤ 500000000001 := by have := hw.n_eq; omega
  have hnI : (n : Int) ≤ 500000000001 ∧ (0 : Int) ≤ n := by omega
  have hTI : (T : Int) < 8 ∧ (0 : Int) ≤ T := by omega
  have hsum : Hid ((8 * (n : Int) + (T : Int)) = (L.length : Int)) := by show _ = _; have := hw.n_eq; omega
  have hw1 : IntKind.i64.wrap (8 * (n : Int)) = 8 * (n : Int) := by rw [IntWalk.i64_in _ (by omega)]
  have hw2 : IntKind.i64.wrap (8 * (n : Int) + (T : Int)) = 8 * (n : Int) + (T : Int) := by rw [IntWalk.i64_in _ (by omega)]
  clear hT
  go_enter Try.func19, Try.ntmps19
  go_wp2
  go_quiet (fail)
  go_wp2
  go_ret
  exact ⟨ret_int hsum.out, _, rfl⟩

theorem wtrTake_any (w : World) (b0 g n c : Nat) (A : Option Addr) (L : List Int) (hw : Wtr w b0 g A n c L) :
    Calls Try.prog 16 #[.pointer (some ⟨g, 0, none⟩)] w fun e w' => e = .returned (.slice A n c) ∧ OwnI .u8 w' b0 5 A n c (byt L) ∧ Wtr w' b0 g none 0 0 (rest L) ∧ Chg w w' (fun k => k = g) := by
  have c0 := hw.cell.cell (i := 0) (by omega)
  have z0 := hw.cell.frozen' (i := 0) (by omega)
  unfold wf at c0
  go_enter Try.func16, Try.ntmps16
  go_wp2
  go_ret
  have hrl : (rest L).length < 8 := by rw [rest_length]; omega
  refine ⟨rfl, hw.own.far (p := ⟨g, 0, none⟩) hw.apart _, ⟨(hw.cell.set_ (i := 0) (by omega) _).congr fun i hi => ?_, hw.lo, ?_, by simp [blkOf], hw.bit.rest⟩, (Chg.refl w (fun k => k = g)).setCell (p := ⟨g, 0, none⟩) (.inl rfl) _⟩
  · rw [rest_small hrl]
    obtain rfl | rfl | rfl : i = 0 ∨ i = 1 ∨ i = 2 := by omega
    all_goals rfl
  · rw [byt_small hrl]
    exact OwnI.nil_
end Go.Proofs.Ytefignampkdclaa
