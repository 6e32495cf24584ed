/-
  What is told of a list of tokens that came in, with the bytes' bounds.
-/
import Derived.Test.YtckhkkjdibcclaaProg
import Derived.Test.YtckhkkjdibcclaaPk5
import Derived.Deep.Slices
import Derived.Deep.Fields
import Derived.ChangeSame
import Derived.ChangeArms
import Derived.KernelRfl
namespace Go.Proofs.Ytckhkkjdibcclaa
open Go.RowKit Go.ChangeShapes Go.WideShapes Go.Deep
set_option linter.unusedVariables false

theorem cellsB_u8 : Try.prog.cellsOf 5 = 1 := by kernel_rfl
theorem cellsB_int : Try.prog.cellsOf 3 = 1 := by kernel_rfl
theorem cellsB_tok : Try.prog.cellsOf 27 = 3 := by kernel_rfl
theorem loneB {k : IntKind} {cs : List Value} {o : Nat} {n : Int} (h : (cs.drop o).take 1 = [.int k n]) : cs[o]? = some (.int k n) := by
  have h1 : ((cs.drop o).take 1)[0]? = some (.int k n) := by rw [h]; rfl
  rw [List.getElem?_take] at h1
  simpa using h1
theorem rdTb_of {H : Type} {enc : TypeId × Value → H} {w : World} {fuel : Nat} {a : Option Addr} {len cap : Nat} {x : DataW H × List MemPlace}
    (h : DataW.trod enc Try.prog w 0 (fun _ => true) true fuel 22 [.slice a len cap] = some x) : ∃ l, RdT w w.heap.size a len l ∧ len ≤ maxLen ∧ ∀ t ∈ l, 0 ≤ t.lit ∧ t.lit < 256 := by
  rcases open_slice Try.underlying22 h with ⟨hcs, _⟩ | ⟨ad, l, c, m, n, D, Pl, hcs, _, hl, hm, hmm, _, hi⟩
  · simp at hcs
    obtain ⟨rfl, rfl, rfl⟩ := hcs
    exact ⟨[], ⟨rfl, fun h0 => absurd h0 (by omega)⟩, Nat.zero_le _, fun t ht => by simp at ht⟩
  · simp at hcs hmm
    obtain ⟨rfl, rfl, rfl⟩ := hcs
    subst hmm
    rw [cellsB_tok] at hi
    have key : ∀ i, i < len → ∃ t : Tok, (0 ≤ t.lit ∧ t.lit < 256) ∧ w.cell? (ad.add (i * 3)) = some (.int .u8 t.lit) ∧ w.cell? (ad.add (i * 3 + 1)) = some (.int .i64 t.len) ∧ w.cell? (ad.add (i * 3 + 2)) = some (.int .i64 t.dist) := by
      intro i hil
      obtain ⟨cs', hc, ht⟩ := hi i (by omega)
      obtain ⟨xs, n', _, _, _, hxl, hf⟩ := DataW.trod_struct Try.underlying27 ht
      obtain ⟨_, _, hat⟩ := World.cells?_some hc
      have hx3 : xs.length = 3 := hxl
      have g : ∀ j, j < 3 → ∃ y, xs[j]? = some y := fun j hj => ⟨xs[j]'(by omega), List.getElem?_eq_getElem _⟩
      obtain ⟨y0, hy0⟩ := g 0 (by omega)
      obtain ⟨y1, hy1⟩ := g 1 (by omega)
      obtain ⟨y2, hy2⟩ := g 2 (by omega)
      have f0 := hf 0 _ rfl
      have f1 := hf 1 _ rfl
      have f2 := hf 2 _ rfl
      rw [hy0] at f0
      rw [hy1] at f1
      rw [hy2] at f2
      obtain ⟨v0, e0, b0⟩ := DataW.trod_int Try.underlying5 f0
      obtain ⟨v1, e1, _⟩ := DataW.trod_int Try.underlying3 f1
      obtain ⟨v2, e2, _⟩ := DataW.trod_int Try.underlying3 f2
      replace e0 : (cs'.drop 0).take (Try.prog.cellsOf 5) = [.int .u8 v0] := e0
      replace e1 : (cs'.drop 1).take (Try.prog.cellsOf 3) = [.int .i64 v1] := e1
      replace e2 : (cs'.drop 2).take (Try.prog.cellsOf 3) = [.int .i64 v2] := e2
      rw [cellsB_u8] at e0
      rw [cellsB_int] at e1 e2
      have b : ∀ j, (ad.add (i * 3)).add j = ad.add (i * 3 + j) := fun j => Go.Proofs.Ytckhkkjdibcclaa.addr_add ad (i * 3) j
      have k0 := hat 0 (by omega)
      have k1 := hat 1 (by omega)
      have k2 := hat 2 (by omega)
      rw [b, loneB e0] at k0
      rw [b, loneB e1] at k1
      rw [b, loneB e2] at k2
      exact ⟨⟨v0, v1, v2⟩, bounds_u8 b0.2, k0, k1, k2⟩
    have hall : ∃ l : List Tok, (l.length = len ∧ ∀ t ∈ l, 0 ≤ t.lit ∧ t.lit < 256) ∧ ∀ i, i < len → w.cell? (ad.add (i * 3)) = some (.int .u8 (tokAt l i).lit) ∧ w.cell? (ad.add (i * 3 + 1)) = some (.int .i64 (tokAt l i).len) ∧ w.cell? (ad.add (i * 3 + 2)) = some (.int .i64 (tokAt l i).dist) := by
      clear hi h
      have hind : ∀ k, k ≤ len → ∃ l : List Tok, (l.length = k ∧ ∀ t ∈ l, 0 ≤ t.lit ∧ t.lit < 256) ∧ ∀ i, i < k → w.cell? (ad.add (i * 3)) = some (.int .u8 (tokAt l i).lit) ∧ w.cell? (ad.add (i * 3 + 1)) = some (.int .i64 (tokAt l i).len) ∧ w.cell? (ad.add (i * 3 + 2)) = some (.int .i64 (tokAt l i).dist) := by
        intro k
        induction k with
        | zero => exact fun _ => ⟨[], ⟨rfl, fun t ht => by simp at ht⟩, fun i hi => by omega⟩
        | succ k ih =>
          intro hk
          obtain ⟨l, ⟨hl, hlb⟩, hc⟩ := ih (by omega)
          obtain ⟨t, htb, ht⟩ := key k (by omega)
          refine ⟨l ++ [t], ⟨by simp [hl], fun u hu => by
            rcases List.mem_append.1 hu with hu | hu
            · exact hlb u hu
            · rw [List.mem_singleton.1 hu]; exact htb⟩, fun i hi => ?_⟩
          by_cases h : i < k
          · have e : tokAt (l ++ [t]) i = tokAt l i := by unfold tokAt; simp only [List.getD_eq_getElem?_getD]; rw [List.getElem?_append_left (by omega)]
            rw [e]; exact hc i h
          · obtain rfl : i = k := by omega
            have e : tokAt (l ++ [t]) i = t := by unfold tokAt; simp only [List.getD_eq_getElem?_getD]; rw [List.getElem?_append_right (by omega)]; simp [hl]
            rw [e]; exact ht
      exact hind len (Nat.le_refl _)
    obtain ⟨l, ⟨hll, hlb⟩, hc⟩ := hall
    refine ⟨l, ⟨hll.symm, fun h0 => ⟨ad, rfl, ?_, hc⟩⟩, by omega, hlb⟩
    obtain ⟨c0, _, _⟩ := hc 0 h0
    have hlt : (ad.add (0 * 3)).block < w.heap.size := by
      rcases Nat.lt_or_ge (ad.add (0 * 3)).block w.heap.size with h' | h'
      · exact h'
      · simp [World.cell?, Array.getElem?_eq_none h'] at c0
    rwa [addr_block] at hlt
end Go.Proofs.Ytckhkkjdibcclaa
