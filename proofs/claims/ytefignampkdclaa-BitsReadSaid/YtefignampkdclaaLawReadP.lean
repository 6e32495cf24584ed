/-
  The walk of the statement BitsRead.
-/
import Derived.Test.YtefignampkdclaaProg
import Derived.Test.YtefignampkdclaaRev
import Derived.Test.YtefignampkdclaaRdrB
import Derived.Test.YtefignampkdclaaRefB
import Derived.Test.YtefignampkdclaaOwnO
import Derived.Test.YtefignampkdclaaOpenB
import Derived.BigFrame
import Derived.Deep.RegionHeld3
namespace Go.Proofs.Ytefignampkdclaa
open Go.RowKit
set_option linter.unusedVariables false

/-- the bits that are left, in their own row; the reader that holds bytes -/
structure RB (w0 : World) (g : Nat) (A1 : Option Addr) (m d : Nat) (L : List Int) (Ar : Option Addr) (nr cr : Nat) (B : List Int) (a : Nat) (w : World) : Prop where
  own : OwnO .u8 w w0.heap.size 5 A1 m d L
  rdr : Rdr w w0.heap.size g Ar nr cr B a
  dis : ∀ q, blkOf A1 = some q → ¬ foot Ar g q
  bel : Below w0.heap.size w0 w
section
variable {w0 w w' : World} {g m d nr cr a : Nat} {A1 Ar : Option Addr} {L B : List Int}
theorem RB.keeps (h : RB w0 g A1 m d L Ar nr cr B a w) (hb : Below w.heap.size w w') : RB w0 g A1 m d L Ar nr cr B a w' :=
  ⟨h.own.keeps hb, h.rdr.keeps hb, h.dis, h.bel.trans (hb.mono h.bel.size)⟩
theorem RB.drewN (h : RB w0 g A1 m d L Ar nr cr B a w) (q : Nat) : RB w0 g A1 m d L Ar nr cr B a (w.drewN q) := h.keeps (below_drewN (Below.refl _ _) q)
theorem RB.rop (h : RB w0 g A1 m d L Ar nr cr B a w) {A' : Option Addr} {n' c' a' : Nat} {B' : List Int} (hr : Rdr w' w0.heap.size g A' n' c' B' a') (hg : Chg w w' (fun k => k = g)) (hf : ∀ k, blkOf A' = some k → blkOf Ar = some k ∨ w.heap.size ≤ k) :
    RB w0 g A1 m d L A' n' c' B' a' w' :=
  ⟨h.own.chg hg fun q hq e => h.dis q hq (.inl e), hr, fun q hq hq2 => by
    rcases hq2 with hq2 | hq2
    · exact h.dis q hq (.inl hq2)
    · rcases hf q hq2 with h3 | h3
      · exact h.dis q hq (.inr h3)
      · have := (h.own.lt hq).2; omega, h.bel.trans (hg.below (fun q hq => hq ▸ h.rdr.lo) h.bel.size)⟩
theorem RB.grow (h : RB w0 g A1 m d L Ar nr cr B a w) {A2 : Option Addr} {m2 d2 : Nat} {L1' : List Int} (ho : OwnO .u8 w' w0.heap.size 5 A2 m2 d2 L1') (hg : w.grownBy w' (blkOf A1)) (hat : blkOf A2 = blkOf A1 ∨ blkOf A2 = some w.heap.size) :
    RB w0 g A2 m2 d2 L1' Ar nr cr B a w' :=
  ⟨ho, h.rdr.chg (S := fun q => blkOf A1 = some q) ((Chg.refl w _).grown hg fun k hk => .inl hk) (fun k hk h2 => h.dis k h2 hk), fun q hq hq2 => by
    rcases hat with e | e
    · exact h.dis q (e ▸ hq) hq2
    · rw [e] at hq; injection hq with hq; have := (h.rdr.foot_lo hq2).2; omega, h.bel.grown hg h.bel.size fun q hq => (h.own.lt hq).1⟩
/-- some first bits are gone -/
theorem RB.cut (h : RB w0 g A1 m d L Ar nr cr B a w) {j : Nat} (hj : j ≤ m) : RB w0 g (cutA A1 d j) (m - j) (d - j) (L.drop j) Ar nr cr B a w :=
  ⟨h.own.cut hj, h.rdr, fun q hq => h.dis q (by rwa [h.own.blk] at hq), h.bel⟩
/-- another row takes its place -/
theorem RB.other (h : RB w0 g A1 m d L Ar nr cr B a w) {A2 : Option Addr} {m2 d2 : Nat} {L1' : List Int} (ho : OwnO .u8 w w0.heap.size 5 A2 m2 d2 L1') (hd : ∀ q, blkOf A2 = some q → ¬ foot Ar g q) :
    RB w0 g A2 m2 d2 L1' Ar nr cr B a w := ⟨ho, h.rdr, hd, h.bel⟩
/-- a store elsewhere -/
theorem RB.chg {S : Nat → Prop} (h : RB w0 g A1 m d L Ar nr cr B a w) (hc : Chg w w' S) (hA : ∀ q, blkOf A1 = some q → ¬ S q) (hF : ∀ q, foot Ar g q → ¬ S q) (hS : ∀ k, S k → w0.heap.size ≤ k) : RB w0 g A1 m d L Ar nr cr B a w' :=
  ⟨h.own.chg hc hA, h.rdr.chg hc hF, h.dis, h.bel.trans (hc.below hS h.bel.size)⟩
end
def RdRel (w0 : World) (g len : Nat) (o i : Value) (w : World) : Prop :=
  ∃ (k m d nr cr a : Nat) (A1 Ar : Option Addr) (L B : List Int), k ≤ len ∧ k ≤ 100 ∧ i = .int .i64 k ∧ o = .slice A1 m d ∧ RB w0 g A1 m d L Ar nr cr B a w ∧ Hid (L = rb B a) ∧ Hid (B.length ≤ 300 * k)
def bf (t : ActV) : Nat → Value
  | 0 => .int .i64 t.do_
  | 1 => .int .i64 t.n
  | 2 => .int .u32 t.v
  | _ => .slice t.A t.m t.d
theorem bf_new (w : World) (t : ActV) (ty : TypeId) : Ar (w.alloc (.cells #[.int .i64 t.do_, .int .i64 t.n, .int .u32 t.v, .slice t.A t.m t.d] ty)) w.heap.size 4 (bf t) :=
  Ar.new w _ ty rfl fun i hi => by
    obtain rfl | rfl | rfl | rfl : i = 0 ∨ i = 1 ∨ i = 2 ∨ i = 3 := by omega
    all_goals rfl


theorem rb_align (B : List Int) {a : Nat} (h : a ≤ 8 * B.length) : a + (8 * B.length - a) % 8 = (a + 7) / 8 * 8 := by omega
theorem rb_bytes (B : List Int) (hB : ∀ x ∈ B, 0 ≤ x ∧ x < 256) (j K : Nat) : byt ((rb B (8 * j)).take (8 * K)) = (B.drop j).take K := by
  unfold rb
  rw [← bts_drop]
  have e : (bts (B.drop j)).take (8 * K) = bts ((B.drop j).take K) := by
    by_cases hK : K ≤ (B.drop j).length
    · have h1 : bts (B.drop j) = bts ((B.drop j).take K) ++ bts ((B.drop j).drop K) := by rw [← bts_append, List.take_append_drop]
      rw [h1, List.take_append_of_le_length (by rw [bts_length, List.length_take, Nat.min_eq_left hK]; exact Nat.le_refl _), List.take_of_length_le (by rw [bts_length, List.length_take, Nat.min_eq_left hK]; exact Nat.le_refl _)]
    · rw [List.take_of_length_le (by rw [bts_length]; omega), List.take_of_length_le (l := B.drop j) (by omega)]
  rw [e, byt_bts fun x hx => hB x (List.mem_of_mem_drop (List.mem_of_mem_take hx))]

def TurnB (w0 : World) (g P c6 m d nr cr a : Nat) (A6 A1 Ar : Option Addr) (L B : List Int) (h : Nat) (t : ActV) (j : Value) (wr : World) : Prop :=
  ∃ (k : Nat) (v : Nat → Int), k ≤ P ∧ j = .int .i64 k ∧ Own wr w0.heap.size 5 1 A6 P c6 (fun i => .int .u8 (v i)) ∧ RB w0 g A1 m d L Ar nr cr B a wr ∧ (∀ q, blkOf A6 = some q → blkOf A1 ≠ some q ∧ ¬ foot Ar g q ∧ h ≠ q) ∧ Ar_ wr h t
  where Ar_ (w : World) (h : Nat) (t : ActV) : Prop := Go.Proofs.Ytefignampkdclaa.Ar w h 4 (bf t)
theorem TurnB.next {w0 wr : World} {g gb P m d nr cr a h k c : Nat} {A1 Ar : Option Addr} {L B : List Int} {t : ActV} {v : Nat → Int} (hk : k < P) (o : Own wr w0.heap.size 5 1 (some ⟨gb, 0, none⟩) P c (fun i => .int .u8 (v i)))
    (hws : RB w0 g A1 m d L Ar nr cr B a wr) (hq : ∀ q, blkOf (some (⟨gb, 0, none⟩ : Addr)) = some q → blkOf A1 ≠ some q ∧ ¬ foot Ar g q ∧ h ≠ q) (har : TurnB.Ar_ wr h t) (x : Int) {j : Value} (hj : j = .int .i64 (k + 1 : Nat)) :
    TurnB w0 g P c m d nr cr a (some ⟨gb, 0, none⟩) A1 Ar L B h t j (wr.setCell ⟨gb, k, none⟩ (.int .u8 x)) := by
  obtain ⟨h1, h2, h3⟩ := hq gb rfl
  refine ⟨k + 1, fun i => if i = k then x else v i, hk, hj, (o.set_ (i := k) (by omega) (.int .u8 x)).congr fun i _ => ?_, ?_, hq, har.far (by simpa using h3) _⟩
  · unfold upd
    dsimp only
    split <;> rfl
  · exact hws.chg (S := fun q => q = gb) ((Chg.refl wr (fun q => q = gb)).setCell (p := ⟨gb, k, none⟩) (.inl rfl) _) (fun q hq e => h1 (e ▸ hq)) (fun q hq e => h2 (e ▸ hq)) (fun q hq => by rw [hq]; exact (o.lt (g := gb) rfl).1)
end Go.Proofs.Ytefignampkdclaa
