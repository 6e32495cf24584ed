/-
  The law of append of so many zeros (append(s, make(..)...)) on a slice of the call's own, elements of one cell.
-/
import Derived.Test.YtlgkiookobedcaaPk3
import Derived.Lib.AppendZerosOnto
import Derived.Deep.AppendSrc
namespace Go.Proofs.Ytlgkiookobedcaa
open Go.RowKit Go.Lib
set_option linter.unusedVariables false
theorem zeroCells_one (z : Value) (k : Nat) : Builtin.zeroCells #[z] k = (List.replicate k z).toArray := by
  apply Array.ext
  · simp [Builtin.zeroCells]
  · intro i h1 h2
    simp [Builtin.zeroCells, Nat.mod_one]
section
variable {P : Program} (w : World)
theorem run_app_zeros (k : IntKind) (b0 : Nat) (t tn ty e : TypeId) (i : TypeInfo) (bytes : Nat) (kn kq : IntKind) (ht : P.underlying t = some (.slice e)) (htn : P.underlying tn = some (.int kn)) (hi : P.info? e = some i) (hz : i.zero = some (.int k 0))
    (hsize : i.size = 1) (hby : i.bytes = bytes) {A : Option Addr} {n c : Nat} {l : List Int} (hown : OwnI k w b0 e A n c l) (m : Nat)
    (h63 : n + m ≤ 1000000000000) (hb8 : bytes ≤ 100) (hbase : b0 ≤ w.heap.size) :
    ∃ A2 c2 w2, (Builtin.append_ #[t, tn] ty #[.slice A n c, .int kq m]).run P w = .ok (.slice A2 (n + m) c2) w2 ∧ OwnI k w2 b0 e A2 (n + m) c2 (l ++ List.replicate m 0) ∧ w.grownBy w2 (blkOf A) ∧
      (blkOf A2 = blkOf A ∨ blkOf A2 = some w.heap.size) := by
  have hw : IntKind.i64.wrap (m : Int) = m := by rw [IntKind.wrap_i64]; omega
  have hneg : ¬ ((m : Int) < 0) := by omega
  have hw0 : IntKind.i64.wrap 0 = 0 := by decide
  have hb2 : m * bytes ≤ 100000000000000 := by
    calc m * bytes ≤ 1000000000000 * 100 := Nat.mul_le_mul (by omega) hb8
      _ = _ := rfl
  have hb3 : (n + m) * bytes ≤ 100000000000000 := by
    calc (n + m) * bytes ≤ 1000000000000 * 100 := Nat.mul_le_mul h63 hb8
      _ = _ := rfl
  have h48i : ¬ (281474976710656 < (m : Int) * (bytes : Int)) := by rw [← Int.natCast_mul]; omega
  have hzc : (Value.int k 0).cells = #[.int k 0] := rfl
  have hrep : ∀ i, i < n + m → (.int k (ix (l ++ List.replicate m 0) i) : Value) = if i < n then .int k (ix l i) else .int k 0 := fun i hi => by
    rw [ix_append, ← hown.1]
    split
    · rfl
    · unfold ix
      rw [List.getD_eq_getElem?_getD, List.getElem?_replicate]
      split <;> rfl
  by_cases hm : m = 0
  · subst hm
    refine ⟨A, c, w, ?_, by rw [List.replicate_zero, List.append_nil]; exact hown, World.grownBy.refl w _, .inl rfl⟩
    rcases hown.2 with ⟨rfl, rfl, rfl⟩ | ⟨g, cur, rfl, _, _, hnc, _⟩
    · simp [Builtin.append_, run_underlying ht, run_underlying htn, sizeOf, typeInfo, hi, hby, asInt, asIntOf, hw0]
    · simp [Builtin.append_, run_underlying ht, run_underlying htn, sizeOf, typeInfo, hi, hby, asInt, asIntOf, hw0, hnc, storeCells]
  · have hns : ¬ (m * i.size = 0) := Nat.mul_ne_zero hm (by omega)
    have grown : ∀ (old : Nat), old < n + m → ∀ (row : Option Nat) (xs : List Value), xs.length = n → (∀ j, j < n → xs[j]? = some (.int k (ix l j))) →
        OwnI k (w.drew.alloc (.cells (xs.toArray ++ Builtin.zeroCells (Value.int k 0).cells m ++ Builtin.zeroCells (Value.int k 0).cells (grownCap w (n + m) old e - (n + m))) e)) b0 e (some ⟨w.heap.size, 0, none⟩) (n + m) (grownCap w (n + m) old e) (l ++ List.replicate m 0) ∧
        w.grownBy (w.drew.alloc (.cells (xs.toArray ++ Builtin.zeroCells (Value.int k 0).cells m ++ Builtin.zeroCells (Value.int k 0).cells (grownCap w (n + m) old e - (n + m))) e)) row := by
      intro old ho row xs hxl hxs
      have hge := grownCap_ge w (n + m) old e
      have hcm : grownCap w (n + m) old e ≤ maxLen := grownCap_le_maxLen w (n + m) old e (by unfold maxLen; omega)
      refine ⟨⟨by rw [List.length_append, List.length_replicate, ← hown.1], .inr ⟨w.heap.size, _, rfl, hbase, heap_alloc_new w.drew _, hge, hcm, ?_, fun j hj => ?_⟩⟩, ⟨rfl, rfl, rfl, by simp, fun q hq _ => Below.heap_alloc w.drew _ q hq⟩⟩
      · rw [hzc, zeroCells_one, zeroCells_one]
        simp [hxl]
        omega
      · rw [Nat.mul_one] at hj
        show _ = some (Value.int k (ix (l ++ List.replicate m 0) j))
        rw [hrep j hj, hzc, zeroCells_one, zeroCells_one]
        by_cases hjn : j < n
        · rw [if_pos hjn, Array.getElem?_append_left (by simp [hxl]; omega), Array.getElem?_append_left (by simp [hxl]; exact hjn)]
          simpa using hxs j hjn
        · rw [if_neg hjn, Array.getElem?_append_left (by simp [hxl]; omega), Array.getElem?_append_right (by simp [hxl]; omega)]
          simp [hxl, show j - n < m by omega]
    rcases hown.2 with ⟨rfl, hn0, rfl⟩ | ⟨g, cur, rfl, hbg, hg, hnc, hcm, hcs, hcur⟩
    · subst hn0
      have hr := run_append_nil_zeros (P := P) w t tn ty e i _ kq kn ht htn hi hz m (by omega) (by omega) (by omega) (by rw [hby]; omega)
      have hgr := grown 0 (by omega) (blkOf none) [] rfl (fun j hj => by omega)
      have e0 : ∀ Z : Array Value, ([] : List Value).toArray ++ Z = Z := fun Z => by simp
      simp only [Nat.zero_add, e0] at hgr ⊢
      exact ⟨_, _, _, hr, hgr.1, hgr.2, .inr rfl⟩
    · rw [Nat.mul_one] at hcs
      by_cases hroom : n + m ≤ c
      · have hst := run_storeCells_at P g (n * i.size) e (List.replicate m (Value.int k 0)) 0 cur w hg (by rw [hsize]; simp; omega) (fun v hv => by rw [List.eq_of_mem_replicate hv]; rfl)
        simp only [Nat.add_zero] at hst
        refine ⟨_, c, w.setRow g (cur.toList.take (n * i.size) ++ List.replicate m (Value.int k 0) ++ cur.toList.drop (n * i.size + (List.replicate m (Value.int k 0)).length)).toArray, ?_, ⟨by rw [List.length_append, List.length_replicate, ← hown.1], .inr ⟨g, _, rfl, hbg, setRow_heap w g cur _ e _ hg, hroom, hcm, ?_, fun j hj => ?_⟩⟩, ⟨rfl, rfl, rfl, by simp, fun q hq h2 => setRow_other w g q _ (fun e => h2 (by simp [blkOf, e]))⟩, .inl rfl⟩
        · simp [Builtin.append_, run_underlying ht, run_underlying htn, sizeOf, typeInfo, zeroValue, hi, hz, hby, asInt, asIntOf, hw, hneg, hns, h48i, hroom, Addr.add_lit, hzc, zeroCells_one]
          have := hst
          rw [hsize, Nat.mul_one] at this
          have h9 := this
          simp at h9
          rw [hsize, Nat.mul_one, h9]; rfl
        · rw [hsize]
          simp [hcs]
          omega
        · rw [Nat.mul_one] at hj
          show _ = some (Value.int k (ix (l ++ List.replicate m 0) j))
          rw [hrep j hj, hsize, Nat.mul_one]
          by_cases hjn : j < n
          · rw [if_pos hjn]
            have h9 := hcur j (by omega)
            rw [Array.getElem?_eq_getElem (by omega)] at h9
            simp [List.getElem?_append, List.length_take, hcs, hjn, show min n c = n by omega]
            simpa using h9
          · rw [if_neg hjn]
            simp [List.getElem?_append, List.length_take, hcs, hjn, show min n c = n by omega, show j - n < m by omega]
      · have hrd : ∀ j u, ((List.range n).map fun j => (Value.int k (ix l j)))[j]? = some u → w.cell? ((⟨g, 0, none⟩ : Addr).add j) = some u := fun j u hu => by
          have hj : j < n := by
            rcases Nat.lt_or_ge j n with h' | h'
            · exact h'
            · rw [List.getElem?_eq_none (by simpa using h')] at hu; cases hu
          have hc2 := hown.2.cell (i := j) (by omega)
          have ha : (⟨g, 0, none⟩ : Addr).add j = ⟨g, j, none⟩ := by unfold Addr.add; split <;> simp_all
          rw [ha, hc2]
          simpa [hj] using hu
        have hf := run_firstCells_some (P := P) w.drew i.size n ⟨g, 0, none⟩ n c ((List.range n).map fun j => (Value.int k (ix l j))) (by simp [hsize]) hrd
        have hr := run_append_grow_zeros (P := P) w t tn ty e i _ kq kn ht htn hi hz (some ⟨g, 0, none⟩) n c _ hf m (by omega) (by omega) (by omega) (by omega) (by rw [hby]; omega) (by
          rw [hby]; exact growslice_fits (by omega) (by omega))
        have hgr := grown c (by omega) (blkOf (some ⟨g, 0, none⟩)) ((List.range n).map fun j => (Value.int k (ix l j))) (by simp) (fun j hj => by simp [hj])
        exact ⟨_, _, _, hr, hgr.1, hgr.2, .inr rfl⟩
end
end Go.Proofs.Ytlgkiookobedcaa
