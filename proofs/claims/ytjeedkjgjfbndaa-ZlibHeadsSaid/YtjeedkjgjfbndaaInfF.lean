/-
  The walk of the decoder's repeated.
-/
import Derived.Test.YtjeedkjgjfbndaaInfD
namespace Go.Proofs.Ytjeedkjgjfbndaa
open Go.RowKit
set_option linter.unusedVariables false
section
variable {w w' w0 w2 : World} {b0 g : Nat} {c0 : Nat → Nat} {M M' : DM} {S S' : DS} {s t : IS} {b : List Int} {v : Int}
set_option maxHeartbeats 1000000 in
theorem drep_lack (h : InfS w0 c0 w b0 g M S) (k : Int) (hk : k = 16 ∨ k = 17 ∨ k = 18) (hl : (rb M.B M.a).length < IS.rW k) :
    Calls Try.prog 50 #[.pointer (some ⟨g, 0, none⟩), .int .i64 k] w fun e w' => e = .returned (.tuple #[.int .i64 0, .int .i64 0, .int .i64 5]) ∧ InfS w0 c0 w' b0 g M S := by
  rcases hk with rfl | rfl | rfl
  · have hb := dbit_not h 2 (.inr (.inr (by simp [IS.rW] at hl; omega)))
    have HB := Lib.hid hb
    clear hb hl
    go_enter Try.func50, Try.ntmps50
    go_wp2_with fail
    refine HB.out.mono ?_
    rintro e w1 ⟨rfl, h1⟩
    go_wp2_with fail
    go_returns
    exact ⟨rfl, h1⟩
  · have hb := dbit_not h 3 (.inr (.inr (by simp [IS.rW] at hl; omega)))
    have HB := Lib.hid hb
    clear hb hl
    go_enter Try.func50, Try.ntmps50
    go_wp2_with fail
    refine HB.out.mono ?_
    rintro e w1 ⟨rfl, h1⟩
    go_wp2_with fail
    go_returns
    exact ⟨rfl, h1⟩
  · have hb := dbit_not h 7 (.inr (.inr (by simp [IS.rW] at hl; omega)))
    have HB := Lib.hid hb
    clear hb hl
    go_enter Try.func50, Try.ntmps50
    go_wp2_with fail
    refine HB.out.mono ?_
    rintro e w1 ⟨rfl, h1⟩
    go_wp2_with fail
    go_returns
    exact ⟨rfl, h1⟩
set_option maxRecDepth 100000 in
set_option maxHeartbeats 2000000 in
theorem drep_ok (h : InfS w0 c0 w b0 g M S) (k : Int) (hk : k = 16 ∨ k = 17 ∨ k = 18) (hl : IS.rW k ≤ (rb M.B M.a).length) (hne : k = 16 → 0 < M.nl) (hnl : M.nl ≤ 1000) (N K : Int) (hN : N = ((IS.rB k + num (rb M.B M.a) (IS.rW k) : Nat) : Int)) (hK : K = if k = 16 then ix M.lens (M.lens.length - 1) else 0) :
    Calls Try.prog 50 #[.pointer (some ⟨g, 0, none⟩), .int .i64 k] w fun e w' => e = .returned (.tuple #[.int .i64 N, .int .i64 K, .int .i64 0]) ∧ InfS w0 c0 w' b0 g { M with a := M.a + IS.rW k } S := by
  have hlt := num_lt (Bit.rb M.B M.a) (IS.rW k)
  have hp : 2 ^ IS.rW k ≤ 2 ^ 7 := Nat.pow_le_pow_right (by omega) (by rcases hk with rfl | rfl | rfl <;> decide)
  have hb := dbit_ok h (IS.rW k) (by rcases hk with rfl | rfl | rfl <;> decide) hl
  obtain ⟨V, hV⟩ : ∃ V, num (rb M.B M.a) (IS.rW k) = V := ⟨_, rfl⟩
  rw [hV] at hN hb hlt
  have hVb : (0 : Int) ≤ V ∧ (V : Int) < 128 := by omega
  have HB := Lib.hid hb
  have HN := Lib.hid hN
  have HK := Lib.hid hK
  clear hV hlt hp hb hN hK hl
  rcases hk with rfl | rfl | rfl
  · have hne2 := hne rfl
    obtain ⟨m, hm⟩ : ∃ m, M.nl = m + 1 := ⟨M.nl - 1, by omega⟩
    have hmb : (0 : Int) ≤ m ∧ (m : Int) ≤ 1000 := by omega
    have hw1 : IntKind.i64.wrap (((m + 1 : Nat) : Int) - 1) = (m : Int) := by rw [IntWalk.i64_in _ (by omega)]; omega
    have hw2 : IntKind.i64.wrap ((m : Int) + 1 - 1) = (m : Int) := by rw [IntWalk.i64_in _ (by omega)]; omega
    have HM := Lib.hid hm
    have hK16 : Hid (ix M.lens m = K) := by
      show _ = _
      rw [HK.out, if_pos rfl, show M.lens.length - 1 = m by have := h.lens.1; omega]
    have hN16 : Hid (Ending.returned (.tuple #[.int .i64 (3 + (V : Int)), .int .i64 K, .int .i64 0]) = Ending.returned (.tuple #[.int .i64 N, .int .i64 K, .int .i64 0])) := by show _ = _; rw [HN.out]; rfl
    clear hm hne hne2 HN HK
    go_enter Try.func50, Try.ntmps50
    go_wp2_with fail
    refine HB.out.mono ?_
    rintro e w1 ⟨rfl, h1⟩
    obtain ⟨-, -, -, -, -, -, -, -, -, -, -, j11, -⟩ := h1.cells
    obtain ⟨ad, hA, hbl, cA⟩ := h1.lens.rd.at_ (i := m) (by show m < M.nl; have := HM.out; omega)
    have hA2 : M.Al = some ad := hA
    have cA2 : w1.cell? (ad.add m) = some (.int .i64 K) := by rw [← hK16.out]; exact cA
    have j11b : w1.cell? ⟨g, 11, none⟩ = some (.slice (some ad) (m + 1) M.cl) := by rw [← HM.out, ← hA2]; exact j11
    have HA := Lib.hid hA2
    clear j11 hA hA2 cA
    go_wp2_with fail
    go_region
    all_goals
      go_wp2_with fail
      go_returns
      exact ⟨hN16.out, h1.drew⟩
  · have hN16 : Hid (Ending.returned (.tuple #[.int .i64 (3 + (V : Int)), .int .i64 0, .int .i64 0]) = Ending.returned (.tuple #[.int .i64 N, .int .i64 K, .int .i64 0])) := by show _ = _; rw [HN.out, HK.out]; rfl
    clear hne hnl HN HK
    go_enter Try.func50, Try.ntmps50
    go_wp2_with fail
    refine HB.out.mono ?_
    rintro e w1 ⟨rfl, h1⟩
    go_wp2_with fail
    go_returns
    exact ⟨hN16.out, h1⟩
  · have hN16 : Hid (Ending.returned (.tuple #[.int .i64 (11 + (V : Int)), .int .i64 0, .int .i64 0]) = Ending.returned (.tuple #[.int .i64 N, .int .i64 K, .int .i64 0])) := by show _ = _; rw [HN.out, HK.out]; rfl
    clear hne hnl HN HK
    go_enter Try.func50, Try.ntmps50
    go_wp2_with fail
    refine HB.out.mono ?_
    rintro e w1 ⟨rfl, h1⟩
    go_wp2_with fail
    go_returns
    exact ⟨hN16.out, h1⟩
end
end Go.Proofs.Ytjeedkjgjfbndaa
