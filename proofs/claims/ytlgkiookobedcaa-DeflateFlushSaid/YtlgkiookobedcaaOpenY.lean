/-
  What is told of what came in: openers for the frames.
-/
import Derived.Test.YtlgkiookobedcaaProg
import Derived.Test.YtlgkiookobedcaaOpenX
import Derived.Test.YtlgkiookobedcaaPk29
import Derived.Test.YtlgkiookobedcaaPk4
import Derived.ProofKit
import Derived.OpenShut
import Derived.Lib.SmallJoins
namespace Go.Proofs.Ytlgkiookobedcaa
open Go.Joins Go.RowKit Go.ChangeShapes Go.WideShapes Go.Deep
set_option linter.unusedVariables false
theorem rd_of_row {k : IntKind} {w : World} {a : Option Addr} {len cap : Nat} {zs : List Int}
    (h : (a = none ∧ len = 0 ∧ cap = 0 ∧ zs = []) ∨ ∃ x, a = some x ∧ len ≤ cap ∧ cap ≤ maxLen ∧ zs.length = cap ∧ (∀ i, i < zs.length → w.cell? (x.add i) = some (.int k (zs.getD i 0))) ∧ ∀ n ∈ zs, (Lit.int k n).wf = true) :
    RdI k w w.heap.size a len (zs.take len) ∧ len ≤ maxLen ∧ ∀ n ∈ zs.take len, (Lit.int k n).wf = true := by
  rcases h with ⟨rfl, rfl, rfl, rfl⟩ | ⟨x, rfl, hl, hm, hz, hc, hw⟩
  · exact ⟨⟨rfl, Rd.nil_⟩, Nat.zero_le _, fun n hn => by simp at hn⟩
  · refine ⟨⟨by simp; omega, fun h0 => ⟨x, rfl, ?_, fun i hi => ?_⟩⟩, by omega, fun n hn => hw n (List.mem_of_mem_take hn)⟩
    · have h1 := hc 0 (by omega)
      have hlt : (x.add 0).block < w.heap.size := by
        rcases Nat.lt_or_ge (x.add 0).block w.heap.size with h' | h'
        · exact h'
        · simp [World.cell?, Array.getElem?_eq_none h'] at h1
      rwa [addr_block] at hlt
    · rw [hc i (by omega)]
      congr 2
      simp [ix, hi]
theorem rdC_of {T E : TypeId} {k : IntKind} (hT : Try.prog.underlying T = some (.slice E)) (hE : Try.prog.underlying E = some (.int k)) (hc : Try.prog.cellsOf E = 1) {H : Type} {enc : TypeId × Value → H} {w : World} {fuel : Nat} {a : Option Addr} {len cap : Nat} {x : DataW H × List MemPlace}
    (h : DataW.trod enc Try.prog w 0 (fun _ => true) true fuel T [.slice a len cap] = some x) : ∃ l : List Int, InC k w a len cap l := by
  rcases open_ints hT hE hc h with ⟨hcs, _⟩ | ⟨x, l, c, zs, hcs, _, hl, hm, hz, _, hcell, hwz⟩
  · simp at hcs
    obtain ⟨rfl, rfl, rfl⟩ := hcs
    exact ⟨[], ⟨rfl, Rd.nil_⟩, Nat.zero_le _, fun n hn => by simp at hn, Nat.le_refl _, Nat.zero_le _⟩
  · simp at hcs
    obtain ⟨rfl, rfl, rfl⟩ := hcs
    obtain ⟨h1, h2, h3⟩ := rd_of_row (k := k) (w := w) (a := some x) (len := len) (cap := cap) (zs := zs) (.inr ⟨_, rfl, hl, hm, by simpa using hz, hcell, hwz⟩)
    exact ⟨_, h1, h2, h3, hl, hm⟩
theorem bounds_u16x {x : Int} (h : (Lit.int .u16 x).wf = true) : 0 ≤ x ∧ x < 65536 := by
  simp [Lit.wf, IntKind.min, IntKind.max, IntKind.signed, IntKind.bits] at h
  omega
theorem inC_of {H : Type} {enc : TypeId × Value → H} {w : World} {n : Nat} {v : Value} {y : DataW H × List MemPlace} (h : DataW.trod enc Try.prog w 0 (fun _ => true) true n 22 [v] = some y) :
    ∃ (a : Option Addr) (len cap : Nat) (l : List Int), v = .slice a len cap ∧ InC .u8 w a len cap l := by
  rcases open_ints Try.underlying22 Try.underlying5 (by kernel_rfl) h with ⟨hcs, _⟩ | ⟨x, l, c, zs, hcs, _, hl, hm, hz, _, hcell, hwz⟩
  · simp at hcs
    exact ⟨none, 0, 0, [], hcs, ⟨rfl, Rd.nil_⟩, Nat.zero_le _, (fun n hn => by simp at hn), Nat.le_refl _, Nat.zero_le _⟩
  · simp at hcs
    obtain ⟨h1, h2, h3⟩ := rd_of_row (k := .u8) (w := w) (a := some x) (len := l) (cap := c) (zs := zs) (.inr ⟨_, rfl, hl, hm, by simpa using hz, hcell, hwz⟩)
    exact ⟨some x, l, c, _, hcs, h1, h2, h3, hl, hm⟩
theorem open_agg3 {H : Type} {enc : TypeId × Value → H} {P : Program} {w : World} {base : Nat} {spare : Nat → Bool} {held : Bool} {r : Reach} {b0 : Nat} {t : TypeId} {f0 f1 f2 : Field} {v : Value} {d : DataW H} {p : List MemPlace} (hs : P.underlying t = some (.struct #[f0, f1, f2])) (hone : oneCellFields P #[f0, f1, f2] = true) (hC : P.cellsOf t = 3)
    (hv : Value.okWide P w r b0 t v) (h : DataW.Trod enc P w base spare held t v d p) :
    ∃ (v0 v1 v2 : Value) (y0 y1 y2 : DataW H × List MemPlace) (n : Nat), v = .agg #[v0, v1, v2] ∧ DataW.trod enc P w base spare held n f0.type [v0] = some y0 ∧ DataW.trod enc P w base spare held n f1.type [v1] = some y1 ∧ DataW.trod enc P w base spare held n f2.type [v2] = some y2 := by
  obtain ⟨cs, rfl, hsz⟩ := okWide_struct hs hv
  obtain ⟨l⟩ := cs
  match l, hsz.trans hC with
  | [c0, c1, c2], _ =>
    obtain ⟨fuel, hf⟩ := h
    obtain ⟨xs, n, _, hx, _, hlen, hg⟩ := DataW.trod_struct hs hf
    obtain ⟨o0, k0⟩ := hone_of hone 0 f0 rfl
    obtain ⟨o1, k1⟩ := hone_of hone 1 f1 rfl
    obtain ⟨o2, k2⟩ := hone_of hone 2 f2 rfl
    match xs, hlen with
    | [y0, y1, y2], _ => exact ⟨c0, c1, c2, y0, y1, y2, n, rfl, by simpa [Value.cells, o0, k0] using hg 0 f0 rfl, by simpa [Value.cells, o1, k1] using hg 1 f1 rfl, by simpa [Value.cells, o2, k2] using hg 2 f2 rfl⟩
set_option maxRecDepth 100000 in
theorem open_txt {H : Type} {enc : TypeId × Value → H} {w : World} {r : Reach} {b0 : Nat} {v : Value} {d : DataW H} {p : List MemPlace}
    (hv : Value.okWide Try.prog w r b0 25 v) (h : DataW.Trod enc Try.prog w 0 (fun _ => true) true 25 v d p) : ∃ x : TxV, v = x.v ∧ InX w x := by
  obtain ⟨v0, v1, v2, y0, y1, y2, n, rfl, g0, g1, g2⟩ := open_agg3 Try.underlying25 (by kernel_rfl) (by kernel_rfl) hv h
  obtain ⟨a, len, cap, l, rfl, hx⟩ := inC_of g0
  obtain ⟨n1, e1, _, w1⟩ := DataW.trod_int Try.underlying23 g1
  obtain ⟨n2, e2, _, w2⟩ := DataW.trod_int Try.underlying23 g2
  simp only [List.cons.injEq, and_true] at e1 e2
  exact ⟨⟨a, len, cap, l, n1, n2⟩, by rw [e1, e2]; rfl, hx, bounds_u16x w1, bounds_u16x w2⟩
theorem exists_listx {α : Type} [Inhabited α] {P : Nat → α → Prop} {n : Nat} (h : ∀ i, i < n → ∃ t, P i t) : ∃ l : List α, ∀ i, i < n → P i (l.getD i default) := by
  have hk : ∀ k, k ≤ n → ∃ l : List α, l.length = k ∧ ∀ i, i < k → P i (l.getD i default) := fun k => by
    induction k with
    | zero => exact fun _ => ⟨[], rfl, fun i hi => by omega⟩
    | succ k ih =>
      intro hk
      obtain ⟨l, hl, hc⟩ := ih (by omega)
      obtain ⟨t, ht⟩ := h k (by omega)
      refine ⟨l ++ [t], by simp [hl], fun i hi => ?_⟩
      rw [List.getD_eq_getElem?_getD]
      by_cases hlt : i < k
      · rw [List.getElem?_append_left (by omega), ← List.getD_eq_getElem?_getD]; exact hc i hlt
      · obtain rfl : i = k := by omega
        rw [List.getElem?_append_right (by omega)]; simp [hl]; exact ht
  obtain ⟨l, _, hc⟩ := hk n (Nat.le_refl _)
  exact ⟨l, hc⟩
theorem lonex {v : Value} {cs : List Value} {o : Nat} (h : (cs.drop o).take 1 = [v]) : cs[o]? = some v := by
  have h1 : ((cs.drop o).take 1)[0]? = some v := by rw [h]; rfl
  rw [List.getElem?_take] at h1
  simpa using h1
theorem addr_nextx (a : Addr) (m j : Nat) (hj : 0 < j) : (a.add m).add j = ⟨(a.add m).block, (a.add m).off + j, none⟩ := by
  rw [Go.Proofs.Ytlgkiookobedcaa.addr_add, addr_next _ _ _ hj]
theorem cells_text : Try.prog.cellsOf 25 = 3 := by kernel_rfl
theorem cells_bytesx : Try.prog.cellsOf 22 = 1 := by kernel_rfl
theorem cells_u16x : Try.prog.cellsOf 23 = 1 := by kernel_rfl
set_option maxRecDepth 100000 in
theorem rdX_of {H : Type} {enc : TypeId × Value → H} {w : World} {fuel : Nat} {a : Option Addr} {len cap : Nat} {x : DataW H × List MemPlace}
    (h : DataW.trod enc Try.prog w 0 (fun _ => true) true fuel 39 [.slice a len cap] = some x) : ∃ l : List TxV, (∀ i, i < len → ∃ ad, a = some ad ∧ RdTx w (ad.add (i * 3)) (txAt l i)) ∧ len ≤ maxLen := by
  rcases open_slice Try.underlying39 h with ⟨hcs, _⟩ | ⟨ad, l, c, m, n, D, Pl, hcs, _, hl, hm, hmm, _, hi⟩
  · simp at hcs
    obtain ⟨rfl, rfl, rfl⟩ := hcs
    exact ⟨[], fun i hi => by omega, Nat.zero_le _⟩
  · simp at hcs hmm
    obtain ⟨rfl, rfl, rfl⟩ := hcs
    subst hmm
    rw [cells_text] at hi
    have key : ∀ i, i < len → ∃ t : TxV, ∃ ad', some ad = some ad' ∧ RdTx w (ad'.add (i * 3)) t := by
      intro i hil
      obtain ⟨cs', hc, ht⟩ := hi i (by omega)
      obtain ⟨xs, n', _, _, _, hxl, hf⟩ := DataW.trod_struct Try.underlying25 ht
      obtain ⟨_, _, hat⟩ := World.cells?_some hc
      have hx3 : xs.length = 3 := hxl
      have g : ∀ j, j < 3 → ∃ y, xs[j]? = some y := fun j hj => ⟨xs[j]'(by omega), List.getElem?_eq_getElem _⟩
      obtain ⟨y0, hy0⟩ := g 0 (by omega)
      obtain ⟨y1, hy1⟩ := g 1 (by omega)
      obtain ⟨y2, hy2⟩ := g 2 (by omega)
      have f0 := hf 0 _ rfl
      have f1 := hf 1 _ rfl
      have f2 := hf 2 _ rfl
      rw [hy0] at f0
      rw [hy1] at f1
      rw [hy2] at f2
      obtain ⟨v1, e1, _, g1⟩ := DataW.trod_int Try.underlying23 f1
      obtain ⟨v2, e2, _, g2⟩ := DataW.trod_int Try.underlying23 f2
      have h4 : ∃ (A : Option Addr) (m d : Nat) (b : List Int), (cs'.drop 0).take (Try.prog.cellsOf 22) = [.slice A m d] ∧ InC .u8 w A m d b := by
        rcases open_ints Try.underlying22 Try.underlying5 (by kernel_rfl) f0 with ⟨hcs, _⟩ | ⟨x, l, c, zs, hcs, _, hl, hm, hz, _, hcell, hwz⟩
        · exact ⟨none, 0, 0, [], hcs, ⟨rfl, Rd.nil_⟩, Nat.zero_le _, (fun x hx => by cases hx), Nat.le_refl _, Nat.zero_le _⟩
        · obtain ⟨r1, r2, r3⟩ := rd_of_row (k := .u8) (w := w) (a := some x) (len := l) (cap := c) (zs := zs) (.inr ⟨_, rfl, hl, hm, by simpa using hz, hcell, hwz⟩)
          exact ⟨some x, l, c, _, hcs, r1, r2, r3, hl, hm⟩
      obtain ⟨A, mm, dd, b, e0, hx⟩ := h4
      replace e1 : (cs'.drop 1).take (Try.prog.cellsOf 23) = [.int .u16 v1] := e1
      replace e2 : (cs'.drop 2).take (Try.prog.cellsOf 23) = [.int .u16 v2] := e2
      rw [cells_u16x] at e1 e2
      rw [cells_bytesx] at e0
      have k0 := hat 0 (by omega)
      have k1 := hat 1 (by omega)
      have k2 := hat 2 (by omega)
      rw [Go.Proofs.Ytlgkiookobedcaa.addr_add, Nat.add_zero, lonex e0] at k0
      rw [addr_nextx _ _ _ (by omega), lonex e1] at k1
      rw [addr_nextx _ _ _ (by omega), lonex e2] at k2
      have hlt : (ad.add (i * 3)).block < w.heap.size := by
        rcases Nat.lt_or_ge (ad.add (i * 3)).block w.heap.size with h' | h'
        · exact h'
        · simp [World.cell?, Array.getElem?_eq_none h'] at k0
      exact ⟨⟨A, mm, dd, b, v1, v2⟩, ad, rfl, ⟨k0, k1, k2, hlt, ⟨hx, bounds_u16x g1, bounds_u16x g2⟩⟩⟩
    obtain ⟨l, hc⟩ := exists_listx key
    exact ⟨l, hc, by omega⟩
end Go.Proofs.Ytlgkiookobedcaa
