/-
  The walk of the statements' own answers, layer 07.
-/
import Derived.Test.YtbcmiahggfgjjaaProg
import Derived.Test.YtbcmiahggfgjjaaCopy
import Derived.Test.YtbcmiahggfgjjaaLast
import Derived.Test.YtbcmiahggfgjjaaStr
import Derived.Lib.SlBytesConst
namespace Go.Proofs.Ytbcmiahggfgjjaa
open Go.RowKit
set_option linter.unusedVariables false

theorem Own.ar {w : World} {b0 g n c : Nat} {e : TypeId} {f : Nat → Value} (h : Own w b0 e 1 (some ⟨g, 0, none⟩) n c f) : Ar w g n f := by
  rcases h with ⟨h, _⟩ | ⟨g', cur, hA, h1, h2, h3, h4, h5, h6⟩
  · cases h
  · cases hA
    exact ⟨cur, e, _, h2, .inr rfl, by omega, fun i hi => h6 i (by omega)⟩
theorem OwnI.ar {w : World} {b0 g n c : Nat} {e : TypeId} {k : IntKind} {l : List Int} (h : OwnI k w b0 e (some ⟨g, 0, none⟩) n c l) : Ar w g n (fun i => .int k (ix l i)) := h.2.ar
theorem addL_small {l b : List Int} (h : l.length + b.length ≤ 65536) : addL l b = l ++ b := by unfold addL; rw [if_neg (by simp; omega)]

theorem RdI.litf (k : IntKind) {w : World} {g : Nat} (hg : g = w.heap.size) (l : List Int) (t : TypeId) (fr : Nat × Nat) : RdI k (w.alloc (.cells (l.map (Value.int k)).toArray t fr)) (g + 1) (some ⟨g, 0, none⟩) l.length l := by
  subst hg
  refine ⟨rfl, fun _ => ⟨_, rfl, by simp, fun i hi => ?_⟩⟩
  have : (⟨w.heap.size, 0, none⟩ : Addr).add i = ⟨w.heap.size, i, none⟩ := by unfold Addr.add; split <;> simp_all
  rw [this, cell_of_row _ _ _ _ _ _ (heap_alloc_new w _)]
  simp [ix, hi]

set_option maxHeartbeats 1600000 in
theorem answers7_any (w : World) : Calls Try.prog 12 #[] w fun e w' => e = .returned (.bool true) ∧ Below w.heap.size w w' := by
  have kc := fun (w : World) (C : Array Value) (n c : Nat) => Lib.run_convert_bytes_const (P := Try.prog) w 22 5 C n c Try.underlying22 Try.underlying5
  go_enter Try.func12, Try.ntmps12
  go_wp2_with fail
  refine (winNew_any _).mono ?_
  rintro e w1 ⟨g, rfl, hw1, hb1⟩
  go_wp2_with fail
  refine (winAdd_any _ w.heap.size g 0 0 _ 2 _ none _ [] [97, 98] (hw1.keeps ((Below.refl _ _).alloc (Nat.le_refl _) _)) (RdI.litf .u8 rfl [97, 98] 5 _) (by simp) (by decide)).mono ?_
  rintro e w2 ⟨A2, n2, c2, rfl, hw2, hg2, hf2⟩
  rw [addL_small (by decide)] at hw2
  obtain rfl : n2 = 2 := hw2.n_eq
  have hb2 : Below w.heap.size w w2 := (hb1.alloc hb1.size _).trans (hg2.below (fun k hk => (by
    rcases hk with rfl | hk
    · exact hw1.lo
    · simp [blkOf] at hk)) (by have := hb1.size; simp; omega))
  go_wp2_with fail
  refine (copy_ok _ _ _ _ _ _ _ hw2 5 2 (by omega) (by omega)).mono ?_
  rintro e w3 ⟨g3, A3, n3, c3, rfl, ho3, hw3, _, hg3, hf3⟩
  rw [addL_small (by decide)] at hw3
  obtain rfl : n3 = 7 := hw3.n_eq
  have hs : strOf (cpL ([] ++ [97, 98]) 2 5) = ⟨#[97, 98, 97, 98, 97]⟩ := by rfl
  have hcv := run_to_string (P := Try.prog) 22 9 5 5 _ Try.underlying22 Try.underlying5 Try.underlying9 ho3.ar ho3.1
  rw [hs] at hcv
  have hb3 := hb2.trans (hg3.below (fun k hk => (hw2.foot_lo hk).1) hb2.size)
  clear hs ho3
  go_wp2_with fail
  refine (winLen_any _ _ _ _ _ _ _ hw3).mono ?_
  rintro e w4 ⟨rfl, rfl⟩
  go_wp2
  go_ret
  exact ⟨rfl, hb3⟩
end Go.Proofs.Ytbcmiahggfgjjaa
