/-
  The walk of the decoder's extra and token.
-/
import Derived.Test.YtjeedkjgjfbndaaInfG
import Derived.Test.YtjeedkjgjfbndaaTok
import Derived.Test.YtjeedkjgjfbndaaCopy
namespace Go.Proofs.Ytjeedkjgjfbndaa
open Go.RowKit
set_option linter.unusedVariables false
section
variable {w w' w0 w2 : World} {b0 g : Nat} {c c0 : Nat → Nat} {M M' : DM} {S S' : DS} {s t t' : IS} {b : List Int} {v : Int}
set_option maxRecDepth 100000 in
set_option maxHeartbeats 2000000 in
theorem dextra_lack (h : InfS w0 c0 w b0 g M S) (a0 : Nat) (ha : a0 ≤ 8 * M.B.length) (B : Int) (N : Nat) (hl : (rb M.B M.a).length < N) :
    Calls Try.prog 44 #[.pointer (some ⟨g, 0, none⟩), .agg #[.slice M.Ai M.ni M.ci, .int .i64 a0], .int .i64 B, .int .i64 N] w fun e w' => e = .returned (.tuple #[.int .i64 0, .int .i64 5]) ∧ InfS w0 c0 w' b0 g { M with a := a0 } S := by
  obtain ⟨c, hM, hD⟩ := h
  have hb1 : Below w.heap.size w (w.alloc (.cells #[.slice M.Ai M.ni M.ci, .int .i64 (a0 : Nat)] 44)) := ((Below.refl _ w).alloc (Nat.le_refl _) _)
  have hM1 := hM.keeps hb1
  have hD1 := hD.step (c' := c) hM.lo (fun k hk => (hM.cb k hk).1) (Chg.of_below hb1) (fun _ _ => rfl)
  have hbx : c w.heap.size = 0 := by
    by_cases e : c w.heap.size = 0
    · exact e
    · have := (hM.cb _ e).2; omega
  have hbgs : M.gi < w.heap.size := hM.rdr.cell.lt
  have hgl : g < w.heap.size := hM.cell.lt
  have HBX := Lib.hid hbx
  have hbit := dbit_not hM1.refl N (.inr (.inr (by omega)))
  have HBIT := Lib.hid hbit
  clear hbx hbit hl hb1
  go_enter Try.func44, Try.ntmps44
  go_wp2_with fail
  refine HBIT.out.mono ?_
  rintro e w6 ⟨rfl, h6⟩
  obtain ⟨c6, h6m, h6d⟩ := h6
  have hxc : ∀ i, w6.cell? ⟨w.heap.size, i, none⟩ = (w.alloc (.cells #[.slice M.Ai M.ni M.ci, .int .i64 (a0 : Nat)] 44)).cell? ⟨w.heap.size, i, none⟩ := fun i => h6d.2.1.cell (p := ⟨w.heap.size, i, none⟩) (by simp) (fun e => e HBX.out)
  have x0 : w6.cell? ⟨w.heap.size, 0, none⟩ = some (.slice M.Ai M.ni M.ci) := by rw [hxc 0]; simp
  have x1 : w6.cell? ⟨w.heap.size, 1, none⟩ = some (.int .i64 (a0 : Nat)) := by rw [hxc 1]; simp
  have h6 : InfS _ c w6 b0 g M S := ⟨c6, h6m, h6d⟩
  have j0 := h6.cell.cell (i := 0) (by omega)
  rw [show dF M S 0 = .pointer (some ⟨M.gi, 0, none⟩) from rfl] at j0
  have s0 := h6.rdr.cell.cell (i := 0) (by omega)
  have s1 := h6.rdr.cell.cell (i := 1) (by omega)
  have z0 := h6.rdr.cell.frozen' (i := 0) (by omega)
  have z1 := h6.rdr.cell.frozen' (i := 1) (by omega)
  have h7 := InfS.rebase hM1 hD1 (h6.restore (a' := a0) ha)
  clear hxc h6m h6d
  go_wp2_with fail
  go_region
  all_goals
    go_wp2_with fail
    go_ret2
    exact ⟨rfl, h7.drew⟩
set_option maxRecDepth 100000 in
set_option maxHeartbeats 2000000 in
theorem dextra_ok (h : InfS w0 c0 w b0 g M S) (x : Value) (hx : ∃ A n c a, x = .agg #[.slice A n c, .int .i64 a]) (B : Int) (hB : 0 ≤ B ∧ B ≤ 100000) (N : Nat) (hN : N ≤ 20) (hl : N ≤ (rb M.B M.a).length) (V : Int) (hV : V = B + ((num (rb M.B M.a) N : Nat) : Int)) :
    Calls Try.prog 44 #[.pointer (some ⟨g, 0, none⟩), x, .int .i64 B, .int .i64 N] w fun e w' => e = .returned (.tuple #[.int .i64 V, .int .i64 0]) ∧ InfS w0 c0 w' b0 g { M with a := M.a + N } S := by
  obtain ⟨xA, xn, xc, xa, rfl⟩ := hx
  have hb1 : Below w.heap.size w (w.alloc (.cells #[.slice xA xn xc, .int .i64 xa] 44)) := ((Below.refl _ w).alloc (Nat.le_refl _) _)
  have h1 := h.keeps hb1
  have hlt := num_lt (Bit.rb M.B M.a) N
  have hp : 2 ^ N ≤ 2 ^ 20 := Nat.pow_le_pow_right (by omega) hN
  have hbit := dbit_ok h1 N (by omega) hl
  obtain ⟨U, hU⟩ : ∃ U, num (rb M.B M.a) N = U := ⟨_, rfl⟩
  rw [hU] at hV hbit hlt
  have hUI : (0 : Int) ≤ U ∧ (U : Int) < 1048576 := by omega
  have HBIT := Lib.hid hbit
  have HV := Lib.hid hV
  clear hbit hl hb1 hV hU hlt hp hN
  go_enter Try.func44, Try.ntmps44
  go_wp2_with fail
  refine HBIT.out.mono ?_
  rintro e w6 ⟨rfl, h6⟩
  go_wp2_with fail
  go_ret2
  exact ⟨by rw [HV.out]; rfl, h6⟩
theorem cpL_again' {out wl : List Int} (h : Tail out wl) {D N : Nat} (h1 : 1 ≤ D) (h2 : D ≤ wl.length) : cpL wl D N = again out D N := by
  unfold cpL again
  refine List.map_congr_left fun i _ => ?_
  rw [← ix_drop, h.back h2, ix_drop]
theorem tok_step (h : t.st = 6) : t.step = t.token := by unfold IS.step; rw [if_neg (by omega), if_neg (by omega), if_neg (by omega), if_neg (by omega), if_neg (by omega), if_neg (by omega), if_pos h]
theorem dist_step (h : t.st = 7) : t.step = t.dist := by unfold IS.step; rw [if_neg (by omega), if_neg (by omega), if_neg (by omega), if_neg (by omega), if_neg (by omega), if_neg (by omega), if_neg (by omega), if_pos h]
end
end Go.Proofs.Ytjeedkjgjfbndaa
