/-
  The walk of the statements' own answers, layer 11.
-/
import Derived.Test.YtlgkiookobedcaaProg
import Derived.Test.YtlgkiookobedcaaPk27
import Derived.Test.YtlgkiookobedcaaRfF
import Derived.Test.YtlgkiookobedcaaStr
import Derived.Lib.SlBytesConst
namespace Go.Proofs.Ytlgkiookobedcaa
open Go.RowKit
set_option linter.unusedVariables false
theorem OwnI.ar {w : World} {b0 g n c : Nat} {e : TypeId} {k : IntKind} {l : List Int} (h : OwnI k w b0 e (some ⟨g, 0, none⟩) n c l) : Ar w g n (fun i => .int k (ix l i)) := by have := h.2.ar; rwa [Nat.mul_one] at this
theorem RdI.lith (k : IntKind) {w : World} {g : Nat} (hg : g = w.heap.size) (l : List Int) (t : TypeId) (fr : Nat × Nat) : RdI k (w.alloc (.cells (l.map (Value.int k)).toArray t fr)) (g + 1) (some ⟨g, 0, none⟩) l.length l := by
  subst hg
  refine ⟨rfl, fun _ => ⟨_, rfl, by simp, fun i hi => ?_⟩⟩
  have : (⟨w.heap.size, 0, none⟩ : Addr).add i = ⟨w.heap.size, i, none⟩ := by unfold Addr.add; split <;> simp_all
  rw [this, cell_of_row _ _ _ _ _ _ (heap_alloc_new w _)]
  simp [ix, hi]
set_option maxRecDepth 100000 in
set_option maxHeartbeats 1600000 in
theorem answers11_any (w : World) : Calls Try.prog 6 #[] w fun e w' => e = .returned (.bool true) ∧ Below w.heap.size w w' := by
  have kc := fun (w : World) (C : Array Value) (n c : Nat) => Lib.run_convert_bytes_const (P := Try.prog) w 22 5 C n c Try.underlying22 Try.underlying5
  obtain ⟨t, h1, h2, h3, _, _, _, h7, h8, _⟩ := whole_fin 6 (x := [97, 98]) (by decide) (by decide)
  obtain ⟨t2, f1, f2, f3⟩ := fin_cap (m := 100) h1 (by rw [h3]; decide)
  rw [h3] at f2
  have HF := Lib.hid (⟨f1, f2, h7, h8⟩ : _ ∧ _ ∧ _ ∧ _)
  clear h1 h2 h3 h7 h8 f1 f2 f3
  go_enter Try.func6, Try.ntmps6
  go_wp2_with fail
  refine (dwhole_any _ _ _ _ [97, 98] 6 ((RdI.lith .u8 rfl [97, 98] 5 _).more (by simp)) (by simp) (by decide) (by decide) (by decide)).mono ?_
  rintro e w1 ⟨A, n, k, rfl, ho, hb1⟩
  have hb : Below w.heap.size w w1 := ((Below.refl _ w).alloc (Nat.le_refl _) _).trans (hb1.mono (by simp))
  have HI := Lib.hid (rinflate_any w1 w1.heap.size A n k (wholeB 6 [97, 98]) ho.rd (Nat.le_refl _) HF.out.2.2.2 (by have := HF.out.2.2.1; simp at this; omega) 100 100 (by decide) (by decide) (t2, 8) HF.out.1)
  have HB := Lib.hid hb
  clear ho hb1 hb
  go_wp2_with fail
  refine HI.out.mono ?_
  rintro e w2 ⟨g, c, R, rfl, hM, hbM, hE, hout, hkd, hst, htk, hrest⟩
  have hE0 : R.E = 0 := hE
  have x1 : w2.cell? ⟨g, 1, none⟩ = some (.int .i64 0) := by rw [← hE0]; exact hM.cell.cell (i := 1) (by omega)
  have ho := hM.out
  rw [hout, HF.out.2.1] at ho
  have hn : R.no = 2 := ho.1
  have x0 : w2.cell? ⟨g, 0, none⟩ = some (.slice R.Ao R.no R.co) := hM.cell.cell (i := 0) (by omega)
  rw [hn] at x0 ho
  obtain ⟨go, hgo⟩ := ho.2.addr (by omega)
  rw [hgo] at x0 ho
  have hs : strOf [97, 98] = ⟨#[97, 98]⟩ := by rfl
  have hcv := run_to_string (P := Try.prog) 22 9 5 R.co _ Try.underlying22 Try.underlying5 Try.underlying9 ho.ar ho.1
  rw [hs] at hcv
  have HB2 := Lib.hid (HB.out.trans (hbM.mono HB.out.size))
  clear hM hbM hE hout hkd hst htk hrest hE0 ho hn hgo hs HI
  go_wp2_with fail
  go_ret
  exact ⟨rfl, HB2.out⟩
end Go.Proofs.Ytlgkiookobedcaa
