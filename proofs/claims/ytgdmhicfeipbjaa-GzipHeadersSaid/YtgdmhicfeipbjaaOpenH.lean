/-
  What is told of a header that came in by value.
-/
import Derived.Test.YtgdmhicfeipbjaaHdT
import Derived.Test.YtgdmhicfeipbjaaOpenC
import Derived.Lib.SmallJoins
namespace Go.Proofs.Ytgdmhicfeipbjaa
open Go.Joins Go.ChangeShapes Go.WideShapes Go.RowKit Go.Deep
set_option linter.unusedVariables false
section
variable {H : Type} {enc : TypeId × Value → H} {P : Program} {w : World} {base : Nat} {spare : Nat → Bool} {held : Bool}
theorem open_agg11 {r : Reach} {b0 : Nat} {t : TypeId} {f0 f1 f2 f3 f4 f5 f6 f7 f8 f9 f10 : Field} {v : Value} {d : DataW H} {p : List MemPlace} (hs : P.underlying t = some (.struct #[f0, f1, f2, f3, f4, f5, f6, f7, f8, f9, f10])) (hone : oneCellFields P #[f0, f1, f2, f3, f4, f5, f6, f7, f8, f9, f10] = true) (hC : P.cellsOf t = 11)
    (hv : Value.okWide P w r b0 t v) (h : DataW.Trod enc P w base spare held t v d p) :
    ∃ (v0 v1 v2 v3 v4 v5 v6 v7 v8 v9 v10 : Value) (y0 y1 y2 y3 y4 y5 y6 y7 y8 y9 y10 : DataW H × List MemPlace) (n : Nat), v = .agg #[v0, v1, v2, v3, v4, v5, v6, v7, v8, v9, v10] ∧
      DataW.trod enc P w base spare held n f0.type [v0] = some y0 ∧ DataW.trod enc P w base spare held n f1.type [v1] = some y1 ∧ DataW.trod enc P w base spare held n f2.type [v2] = some y2 ∧ DataW.trod enc P w base spare held n f3.type [v3] = some y3 ∧ DataW.trod enc P w base spare held n f4.type [v4] = some y4 ∧ DataW.trod enc P w base spare held n f5.type [v5] = some y5 ∧ DataW.trod enc P w base spare held n f6.type [v6] = some y6 ∧ DataW.trod enc P w base spare held n f7.type [v7] = some y7 ∧ DataW.trod enc P w base spare held n f8.type [v8] = some y8 ∧ DataW.trod enc P w base spare held n f9.type [v9] = some y9 ∧ DataW.trod enc P w base spare held n f10.type [v10] = some y10 := by
  obtain ⟨cs, rfl, hsz⟩ := okWide_struct hs hv
  obtain ⟨l⟩ := cs
  match l, hsz.trans hC with
  | [c0, c1, c2, c3, c4, c5, c6, c7, c8, c9, c10], _ =>
    obtain ⟨fuel, hf⟩ := h
    obtain ⟨xs, n, _, hx, _, hlen, hg⟩ := DataW.trod_struct hs hf
    obtain ⟨o0, k0⟩ := hone_of hone 0 f0 rfl
    obtain ⟨o1, k1⟩ := hone_of hone 1 f1 rfl
    obtain ⟨o2, k2⟩ := hone_of hone 2 f2 rfl
    obtain ⟨o3, k3⟩ := hone_of hone 3 f3 rfl
    obtain ⟨o4, k4⟩ := hone_of hone 4 f4 rfl
    obtain ⟨o5, k5⟩ := hone_of hone 5 f5 rfl
    obtain ⟨o6, k6⟩ := hone_of hone 6 f6 rfl
    obtain ⟨o7, k7⟩ := hone_of hone 7 f7 rfl
    obtain ⟨o8, k8⟩ := hone_of hone 8 f8 rfl
    obtain ⟨o9, k9⟩ := hone_of hone 9 f9 rfl
    obtain ⟨o10, k10⟩ := hone_of hone 10 f10 rfl
    match xs, hlen with
    | [y0, y1, y2, y3, y4, y5, y6, y7, y8, y9, y10], _ =>
      exact ⟨c0, c1, c2, c3, c4, c5, c6, c7, c8, c9, c10, y0, y1, y2, y3, y4, y5, y6, y7, y8, y9, y10, n, rfl, by simpa [Value.cells, o0, k0] using hg 0 f0 rfl, by simpa [Value.cells, o1, k1] using hg 1 f1 rfl, by simpa [Value.cells, o2, k2] using hg 2 f2 rfl, by simpa [Value.cells, o3, k3] using hg 3 f3 rfl, by simpa [Value.cells, o4, k4] using hg 4 f4 rfl, by simpa [Value.cells, o5, k5] using hg 5 f5 rfl, by simpa [Value.cells, o6, k6] using hg 6 f6 rfl, by simpa [Value.cells, o7, k7] using hg 7 f7 rfl, by simpa [Value.cells, o8, k8] using hg 8 f8 rfl, by simpa [Value.cells, o9, k9] using hg 9 f9 rfl, by simpa [Value.cells, o10, k10] using hg 10 f10 rfl⟩
end
theorem strOf_bytesL (s : ByteArray) : strOf (bytesL s) = s := by
  apply ByteArray.ext
  apply Array.ext'
  rw [strOf_data]
  unfold bytesL
  rw [List.map_map]
  conv => rhs; rw [← List.map_id s.data.toList]
  apply List.map_congr_left
  intro b _
  simp
theorem bytesL_mem (s : ByteArray) : ∀ x ∈ bytesL s, 0 ≤ x ∧ x < 256 := fun x hx => by
  unfold bytesL at hx
  obtain ⟨b, _, rfl⟩ := List.mem_map.1 hx
  have := b.toNat_lt
  omega
/-- a header that came in: its numbers, its extra field's slice -/
structure HdIn where
  h : HP
  A : Option Addr
  len : Nat
  cap : Nat
def HdIn.v (d : HdIn) : Value := hagg (d.h.v (.slice d.A d.len d.cap))
structure InH (w : World) (d : HdIn) : Prop where
  x : InC .u8 w d.A d.len d.cap d.h.xl
  b : d.h.bd
  nl : d.h.nl.length ≤ maxLen
  cl : d.h.cl.length ≤ maxLen
theorem open_hdr {H : Type} {enc : TypeId × Value → H} {w : World} {r : Reach} {b0 : Nat} {v : Value} {d : DataW H} {p : List MemPlace}
    (hv : Value.okWide Try.prog w r b0 25 v) (h : DataW.Trod enc Try.prog w 0 (fun _ => true) true 25 v d p) : ∃ x : HdIn, v = x.v ∧ InH w x := by
  obtain ⟨v0, v1, v2, v3, v4, v5, v6, v7, v8, v9, v10, y0, y1, y2, y3, y4, y5, y6, y7, y8, y9, y10, n, rfl, t0, t1, t2, t3, t4, t5, t6, t7, t8, t9, t10⟩ := open_agg11 Try.underlying25 (by kernel_rfl) (by kernel_rfl) hv h
  obtain ⟨b0, e0, _⟩ := DataW.trod_bool Try.underlying4 t0
  obtain ⟨b1, e1, _⟩ := DataW.trod_bool Try.underlying4 t1
  obtain ⟨b6, e6, _⟩ := DataW.trod_bool Try.underlying4 t6
  obtain ⟨b9, e9, _⟩ := DataW.trod_bool Try.underlying4 t9
  obtain ⟨b10, e10, _⟩ := DataW.trod_bool Try.underlying4 t10
  obtain ⟨n2, e2, _, w2⟩ := DataW.trod_int Try.underlying22 t2
  obtain ⟨n3, e3, _, w3⟩ := DataW.trod_int Try.underlying5 t3
  obtain ⟨n4, e4, _, w4⟩ := DataW.trod_int Try.underlying5 t4
  obtain ⟨s7, e7, _, w7⟩ := DataW.trod_string Try.underlying9 t7
  obtain ⟨s8, e8, _, w8⟩ := DataW.trod_string Try.underlying9 t8
  have key : ∃ (a : Option Addr) (len cap : Nat) (l : List Int), v5 = .slice a len cap ∧ InC .u8 w a len cap l := by
    rcases open_ints Try.underlying23 Try.underlying5 (by kernel_rfl) t5 with ⟨hcs, _⟩ | ⟨x, l, c, zs, hcs, _, hl, hm, hz, _, hcell, hwz⟩
    · simp at hcs
      exact ⟨none, 0, 0, [], hcs, ⟨rfl, Rd.nil_⟩, Nat.zero_le _, (fun n hn => by simp at hn), Nat.le_refl _, Nat.zero_le _⟩
    · simp at hcs
      obtain ⟨h1, h2, h3⟩ := rd_of_row (k := .u8) (w := w) (a := some x) (len := l) (cap := c) (zs := zs) (.inr ⟨_, rfl, hl, hm, by simpa using hz, hcell, hwz⟩)
      exact ⟨some x, l, c, _, hcs, h1, h2, h3, hl, hm⟩
  obtain ⟨a, len, cap, l, e5, hin⟩ := key
  simp only [List.cons.injEq, and_true] at e0 e1 e2 e3 e4 e6 e7 e8 e9 e10
  refine ⟨⟨⟨b0, b1, n2, n3, n4, l, b6, bytesL s7, bytesL s8, b9, b10⟩, a, len, cap⟩, ?_, hin, ⟨bounds_u32 w2, bounds_u8 w3, bounds_u8 w4, fun x hx => bounds_u8 (hin.2.2.1 x hx), bytesL_mem s7, bytesL_mem s8⟩, by rw [bytesL_length]; exact w7, by rw [bytesL_length]; exact w8⟩
  unfold HdIn.v hagg HP.v
  dsimp only
  rw [strOf_bytesL, strOf_bytesL, e0, e1, e2, e3, e4, e5, e6, e7, e8, e9, e10]
end Go.Proofs.Ytgdmhicfeipbjaa
