/-
  The walk of the statements' own answers, layer 12.
-/
import Derived.Test.YtoegpffdbfkcpaaInfW
import Derived.Test.YtoegpffdbfkcpaaSame
import Derived.Handy
namespace Go.Proofs.Ytoegpffdbfkcpaa
open Go.RowKit
set_option linter.unusedVariables false
theorem fin12a : ∃ F, (start (bts [1, 1, 0, 254, 255, 7, 9]) 5).fin = F ∧ F.2 = 8 ∧ F.1.all = [7] ∧ F.1.x = bts [9] :=
  ⟨_, (IS.fin_run (n := 20) (by decide +kernel)).symm, by decide +kernel, by decide +kernel, by decide +kernel⟩
theorem fin12b : ∃ F, (start (bts [3, 0]) 0).fin = F ∧ F.2 = 8 ∧ F.1.all = [] :=
  ⟨_, (IS.fin_run (n := 20) (by decide +kernel)).symm, by decide +kernel, by decide +kernel⟩
theorem RdI.litg (k : IntKind) {w : World} {g : Nat} (hg : g = w.heap.size) (l : List Int) (t : TypeId) (fr : Nat × Nat) : RdI k (w.alloc (.cells (l.map (Value.int k)).toArray t fr)) (g + 1) (some ⟨g, 0, none⟩) l.length l := by
  subst hg
  refine ⟨rfl, fun _ => ⟨_, rfl, by simp, fun i hi => ?_⟩⟩
  have : (⟨w.heap.size, 0, none⟩ : Addr).add i = ⟨w.heap.size, i, none⟩ := by unfold Addr.add; split <;> simp_all
  rw [this, cell_of_row _ _ _ _ _ _ (heap_alloc_new w _)]
  simp [ix, hi]
theorem below_drewn {B : Nat} {w w' : World} (h : Below B w w') (q : Nat) : Below B w (w'.drewN q) := ⟨h.os, h.tape, h.output, h.size, h.block⟩
set_option maxRecDepth 100000 in
set_option maxHeartbeats 1600000 in
theorem answers12_any (w : World) : Calls Try.prog 7 #[] w fun e w' => e = .returned (.bool true) ∧ Below w.heap.size w w' := by
  obtain ⟨F, hF, h8, hall, hx⟩ := fin12a
  have HF := Lib.hid hF
  clear hF
  go_enter Try.func7, Try.ntmps7
  go_wp2_with fail
  refine (whole_any _ (w.heap.size + 1) _ _ _ [1, 1, 0, 254, 255, 7, 9] (RdI.litg .u8 rfl [1, 1, 0, 254, 255, 7, 9] 5 _) (by simp) (by decide) (by decide) 5 5 (by decide) (by decide) F HF.out).mono ?_
  rintro e w1 ⟨A, n, cp, A2, n2, c2, R, rfl, ho, hr, hR8, _, hby, hb⟩
  have hR : R = [9] := by
    have e1 := byt_bts hby
    rw [hR8 h8, hx, byt_bts (by decide)] at e1
    exact e1.symm
  subst hR
  rw [hall] at ho
  have hE : endE F = 0 := by unfold endE; rw [if_pos h8]
  rw [hE]
  have hb1 := ((Below.refl w.heap.size w).alloc (Nat.le_refl _) _).trans (hb.mono (Nat.le_of_lt (by rw [heap_alloc_size]; omega)))
  have hr1 := ho.rd
  obtain rfl : n2 = 1 := hr.1
  obtain rfl : n = 1 := ho.1
  clear hR8 hx hall hE hb ho h8 hby HF
  go_wp2_with fail
  refine (same_any _ (w1.heap.size + 1) _ _ _ _ _ _ [7] [7] ((hr1.alloc (Nat.le_refl _) _).more (Nat.le_succ _)) (RdI.litg .u8 rfl [7] 5 _) (by decide) rfl).mono ?_
  rintro e w2 ⟨rfl, q, rfl⟩
  go_wp2_with fail
  have hz : ∀ o, ((w1.alloc o).drewN q).heap.size = w1.heap.size + 1 := fun o => heap_alloc_size w1 o
  have hrr : ∀ o o2, RdI .u8 (((w1.alloc o).drewN q).alloc o2) (w1.heap.size + 1 + 1) A2 1 [9] := fun o o2 => (((hr.alloc (Nat.le_refl _) o).drewN q).alloc (by rw [hz]; omega) o2).more (by omega)
  refine (same_any _ (w1.heap.size + 1 + 1) _ _ _ _ _ _ [9] [9] (hrr _ _) (RdI.litg .u8 (hz _).symm [9] 5 _) (by decide) rfl).mono ?_
  rintro e w2 ⟨rfl, q2, rfl⟩
  go_wp2_with fail
  go_ret
  have hb2 := below_drewn (hb1.alloc hb1.size (.cells #[.int .u8 7] 5)) q
  have hb3 := below_drewn (hb2.alloc hb2.size (.cells #[.int .u8 9] 5)) q2
  exact ⟨rfl, hb3⟩
end Go.Proofs.Ytoegpffdbfkcpaa
