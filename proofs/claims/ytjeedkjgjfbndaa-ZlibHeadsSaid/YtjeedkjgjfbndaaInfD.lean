/-
  The walk of the decoder's sizes.
-/
import Derived.Test.YtjeedkjgjfbndaaInfB
namespace Go.Proofs.Ytjeedkjgjfbndaa
open Go.RowKit
set_option linter.unusedVariables false
section
variable {w w' w0 : World} {b0 g : Nat} {c0 : Nat → Nat} {M M' : DM} {S S' : DS} {s t : IS} {b : List Int} {v : Int}
theorem and_i64_nat (a b : Nat) (ha : a < 4611686018427387904) (hb : b < 4611686018427387904) : bits .and .i64 (a : Int) (b : Int) = ((a &&& b : Nat) : Int) := by
  have hx : a &&& b < 2 ^ 62 := Nat.and_lt_two_pow _ (by omega)
  have h1 : (BitVec.ofInt 64 (a : Int)).toNat = a := by
    rw [BitVec.ofInt_natCast, BitVec.toNat_ofNat]; exact Nat.mod_eq_of_lt (by omega)
  have h2 : (BitVec.ofInt 64 (b : Int)).toNat = b := by
    rw [BitVec.ofInt_natCast, BitVec.toNat_ofNat]; exact Nat.mod_eq_of_lt (by omega)
  show IntKind.i64.wrap ((BitVec.ofInt 64 (a : Int) &&& BitVec.ofInt 64 (b : Int)).toNat : Int) = _
  rw [BitVec.toNat_and, h1, h2, IntKind.wrap_i64]
  omega
theorem and31 (V : Nat) (h : V < 1000000) : bits .and .i64 (V : Int) 31 = ((V % 32 : Nat) : Int) := by
  have := and_i64_nat V 31 (by omega) (by omega)
  rwa [nat_mask5] at this
theorem InfS.noLens (h : InfS w0 c0 w b0 g M S) : InfS w0 c0 (w.setCell ⟨g, 11, none⟩ (.slice none 0 0)) b0 g { M with Al := none, nl := 0, cl := 0, lens := [] } S :=
  h.lenses ((Chg.refl w _).setCell (p := ⟨g, 11, none⟩) (.inl (.inl rfl)) _) ((h.cell.set_ (i := 11) (by omega) _).congr (all16 rfl rfl rfl rfl rfl rfl rfl rfl rfl rfl rfl rfl rfl rfl rfl rfl)) OwnI.nil_ (fun k hk => by simp [blkOf] at hk)
set_option maxRecDepth 100000 in
set_option maxHeartbeats 8000000 in
theorem dsizes_any (h : InfS w0 c0 w b0 g M S) (hL : Live M S s) (hO : s.Ok) (hst : s.st = 3) :
    Calls Try.prog 28 #[.pointer (some ⟨g, 0, none⟩)] w (StepPost w0 c0 b0 g M s) := by
  have hb := hL.x
  have hstep : Hid (s.step = s.sizes) := by show _ = _; unfold IS.step; rw [if_neg (by omega), if_neg (by omega), if_neg (by omega), if_pos hst]
  unfold IS.sizes at hstep
  by_cases hx : s.x.length < 14
  · have hlack : Hid (s.step.2 = 5) := by show _ = _; rw [hstep.out, if_pos hx]
    have hl : ((rb M.B M.a).length : Int) < 14 := by rw [hb]; omega
    clear hb hx hstep
    go_enter Try.func28, Try.ntmps28
    go_wp2_with fail
    refine (dbit_not h 14 (.inr (.inr hl))).mono ?_
    rintro e w1 ⟨rfl, h1⟩
    go_wp2
    go_ret
    exact StepPost.lack hlack.out h1 hL rfl
  · have hlt := num_lt hO.bit 14
    have hl : 14 ≤ (rb M.B M.a).length := by rw [hb]; omega
    rw [if_neg hx] at hstep
    have hbit : Hid (∀ w2 : World, InfS w0 c0 w2 b0 g M S → Calls Try.prog 34 #[.pointer (some ⟨g, 0, none⟩), .int .i64 14] w2 fun e w' => e = .returned (.tuple #[.int .i64 ((num s.x 14 : Nat) : Int), .bool true]) ∧ InfS w0 c0 w' b0 g { M with a := M.a + 14 } S) := fun w2 h2 => by
      have := dbit_ok h2 14 (by omega) hl
      rwa [hb] at this
    have hrb : Hid (rb M.B (M.a + 14) = s.x.drop 14) := by show _ = _; rw [← rb_drop, hb]
    obtain ⟨V, hV⟩ : ∃ V, num s.x 14 = V := ⟨_, rfl⟩
    rw [hV] at hlt hstep hbit
    have hA := and31 V (by omega)
    have hD := and31 (V / 32) (by omega)
    obtain ⟨A, hAA⟩ : ∃ A, V % 32 = A := ⟨_, rfl⟩
    obtain ⟨D, hDD⟩ : ∃ D, V / 32 = D := ⟨_, rfl⟩
    obtain ⟨E, hEE⟩ : ∃ E, V / 32 % 32 = E := ⟨_, rfl⟩
    obtain ⟨F, hFF⟩ : ∃ F, V / 1024 = F := ⟨_, rfl⟩
    obtain ⟨C0, hC0⟩ : ∃ C0, A + 257 = C0 := ⟨_, rfl⟩
    obtain ⟨C1, hC1⟩ : ∃ C1, E + 1 = C1 := ⟨_, rfl⟩
    obtain ⟨C2, hC2⟩ : ∃ C2, F + 4 = C2 := ⟨_, rfl⟩
    rw [hEE, hDD] at hD
    rw [hAA] at hA
    have hD1 : (V : Int) / 32 = (D : Int) := by omega
    have hF1 : (V : Int) / 1024 = (F : Int) := by omega
    have hC0' : (A : Int) + 257 = (C0 : Int) := by omega
    have hC1' : (E : Int) + 1 = (C1 : Int) := by omega
    have hC2' : (F : Int) + 4 = (C2 : Int) := by omega
    have hbd : (0 : Int) ≤ V ∧ (0 : Int) ≤ D ∧ (0 : Int) ≤ A ∧ (A : Int) < 32 ∧ (0 : Int) ≤ E ∧ (E : Int) < 32 ∧ (0 : Int) ≤ F ∧ (F : Int) < 16 := by omega
    rw [hAA, hEE, hFF, hC0, hC1, hC2] at hstep
    clear hV hlt hx hb hl hAA hDD hEE hFF hC0 hC1 hC2
    have hcs : ((286 : Int) < C0) ∨ (¬ (286 : Int) < C0 ∧ (30 : Int) < C1) ∨ (¬ (286 : Int) < C0 ∧ ¬ (30 : Int) < C1) := by omega
    rcases hcs with h1 | ⟨h1, h2⟩ | ⟨h1, h2⟩
    all_goals
      go_enter Try.func28, Try.ntmps28
      go_wp2_with fail
      refine (hbit.out _ h).mono ?_
      rintro e w1 ⟨rfl, h1⟩
      obtain ⟨-, -, -, -, -, j5, -, -, j8, j9, j10, j11, -⟩ := h1.cells
      have z5 := h1.cell.frozen' (i := 5) (by omega)
      have z8 := h1.cell.frozen' (i := 8) (by omega)
      have z9 := h1.cell.frozen' (i := 9) (by omega)
      have z10 := h1.cell.frozen' (i := 10) (by omega)
      have z11 := h1.cell.frozen' (i := 11) (by omega)
      have h4 := ((h1.put (i := 8) (by omega) (.int .i64 C0) { S with c0 := C0 } (all16 rfl rfl rfl rfl rfl rfl rfl rfl rfl rfl rfl rfl rfl rfl rfl rfl)).put (i := 9) (by omega) (.int .i64 C1) { S with c0 := C0, c1 := C1 } (all16 rfl rfl rfl rfl rfl rfl rfl rfl rfl rfl rfl rfl rfl rfl rfl rfl)).put (i := 10) (by omega) (.int .i64 C2) { S with c0 := C0, c1 := C1, c2 := C2 } (all16 rfl rfl rfl rfl rfl rfl rfl rfl rfl rfl rfl rfl rfl rfl rfl rfl)
      have h5 := h4.noLens.put (i := 5) (by omega) (.int .i64 4) { S with c0 := C0, c1 := C1, c2 := C2, st := 4 } (all16 rfl rfl rfl rfl rfl rfl rfl rfl rfl rfl rfl rfl rfl rfl rfl rfl)
      go_wp2_with fail
      all_goals
        go_ret
        first
          | exact StepPost.bad0 (hstep.out.trans (if_pos (.inl (by omega)))) (by decide) (by decide) (by decide) rfl h4 hL.err rfl
          | exact StepPost.bad0 (hstep.out.trans (if_pos (.inr (by omega)))) (by decide) (by decide) (by decide) rfl h4 hL.err rfl
          | exact StepPost.go0 (hstep.out.trans (if_neg (by omega))) rfl h5 ⟨hrb.out, rfl, hL.last, hL.left, rfl, rfl, rfl, rfl, fun e => by simp at e, fun e => by simp at e, fun e => by simp at e, fun e => by simp at e, hL.tail, hL.rem, hL.err⟩ rfl
          | (exfalso; omega)
end
end Go.Proofs.Ytjeedkjgjfbndaa
