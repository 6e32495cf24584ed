/-
  Several texts in one (written by pack2.py): TokM, TokO, Sound, FndQ, FndR, SlcT.
-/
import Derived.Test.YtlgkiookobedcaaProg
import Derived.Test.YtlgkiookobedcaaPk3
import Derived.Test.YtlgkiookobedcaaPk7
namespace Go.Proofs.Ytlgkiookobedcaa
open Go.RowKit
set_option linter.unusedVariables false
theorem addr_next (a : Addr) (m j : Nat) (hj : 0 < j) : a.add (m + j) = ⟨(a.add m).block, (a.add m).off + j, none⟩ := by
  unfold Addr.add
  rw [if_neg (by simp; omega)]
  by_cases hm : m = 0
  · subst hm; simp
  · simp [hm, Nat.add_assoc]
def tokAt (l : List Tok) (i : Nat) : Tok := l.getD i ⟨0, 0, 0⟩
def RdT (w : World) (B : Nat) (A : Option Addr) (n : Nat) (l : List Tok) : Prop :=
  n = l.length ∧ (0 < n → ∃ ad, A = some ad ∧ ad.block < B ∧ ∀ i, i < n → w.cell? (ad.add (i * 3)) = some (.int .u8 (tokAt l i).lit) ∧ w.cell? (ad.add (i * 3 + 1)) = some (.int .i64 (tokAt l i).len) ∧ w.cell? (ad.add (i * 3 + 2)) = some (.int .i64 (tokAt l i).dist))
theorem RdT.drop_ {l : List Tok} {n k : Nat} (hn : n = l.length) (hk : k < n) : l.drop k = tokAt l k :: l.drop (k + 1) := by
  rw [List.drop_eq_getElem_cons (by omega)]
  simp [tokAt, List.getD_eq_getElem?_getD, show k < l.length by omega]
def tf (L N D : Int) : Nat → Value
  | 0 => .int .u8 L
  | 1 => .int .i64 N
  | _ => .int .i64 D
theorem tf_new (w : World) (L N D : Int) (t : TypeId) : Ar (w.alloc (.cells #[.int .u8 L, .int .i64 N, .int .i64 D] t)) w.heap.size 3 (tf L N D) :=
  Ar.new w _ t rfl fun i hi => by
    obtain rfl | rfl | rfl : i = 0 ∨ i = 1 ∨ i = 2 := by omega
    · rfl
    · rfl
    · rfl
def soundB (L n d : Int) : Bool := if n = 0 then decide (d = 0) else decide (L = 0 ∧ 3 ≤ n ∧ n ≤ 258 ∧ 1 ≤ d ∧ d ≤ 32768)
theorem soundB_zero {L n d : Int} (h : n = 0) : soundB L n d = decide (d = 0) := by unfold soundB; rw [if_pos h]
theorem soundB_match {L n d : Int} (h : ¬ n = 0) : soundB L n d = decide (L = 0 ∧ 3 ≤ n ∧ n ≤ 258 ∧ 1 ≤ d ∧ d ≤ 32768) := by unfold soundB; rw [if_neg h]
theorem soundB_iff (L N D : Int) : soundB L N D = decide (soundT ⟨L, N, D⟩) := by
  unfold soundB soundT
  by_cases h : N = 0
  · simp [h]
  · simp [h]
theorem expand_append (out : List Int) (a b : List Tok) : expand out (a ++ b) = if (expand out a).1 = 0 then expand (expand out a).2 b else expand out a := by
  induction a generalizing out with
  | nil => rfl
  | cons t a ih =>
    rw [List.cons_append, expand_cons, expand_cons]
    by_cases h : (step out t).1 = 0
    · rw [if_pos h, if_pos h, ih]
    · rw [if_neg h, if_neg h, if_neg h]
theorem step_ok {out : List Int} {t : Tok} (h : (step out t).1 = 0) : ∃ z, (step out t).2 = out ++ z := by
  unfold step at h ⊢
  split
  · rename_i h1; rw [if_pos h1] at h; simp at h
  · rename_i h1
    rw [if_neg h1] at h
    split
    · rename_i h2; rw [if_pos h2] at h; simp at h
    · rename_i h2
      rw [if_neg h2] at h
      split
      · exact ⟨_, rfl⟩
      · rename_i h3
        rw [if_neg h3] at h
        split
        · rename_i h4; rw [if_pos h4] at h; simp at h
        · exact ⟨_, rfl⟩
theorem expand_ok {out : List Int} {l : List Tok} (h : (expand out l).1 = 0) : ∃ z, (expand out l).2 = out ++ z := by
  induction l generalizing out with
  | nil => exact ⟨[], by simp [expand]⟩
  | cons t l ih =>
    rw [expand_cons] at h ⊢
    by_cases hs : (step out t).1 = 0
    · rw [if_pos hs] at h ⊢
      obtain ⟨z, hz⟩ := ih h
      obtain ⟨y, hy⟩ := step_ok hs
      exact ⟨y ++ z, by rw [hz, hy, List.append_assoc]⟩
    · rw [if_neg hs] at h; exact absurd h hs
theorem RdT.below {w w' : World} {B n : Nat} {A : Option Addr} {l : List Tok} (h : RdT w B A n l) (hb : Below B w w') : RdT w' B A n l := ⟨h.1, fun h0 => by
  obtain ⟨ad, e, hB, hc⟩ := h.2 h0
  exact ⟨ad, e, hB, fun i hi => by
    obtain ⟨c0, c1, c2⟩ := hc i hi
    exact ⟨(hb.cell (by rw [addr_block]; exact hB)).trans c0, (hb.cell (by rw [addr_block]; exact hB)).trans c1, (hb.cell (by rw [addr_block]; exact hB)).trans c2⟩⟩⟩
theorem RdT.more {w : World} {B B' n : Nat} {A : Option Addr} {l : List Tok} (h : RdT w B A n l) (hb : B ≤ B') : RdT w B' A n l := ⟨h.1, fun h0 => by
  obtain ⟨ad, e, hB, hc⟩ := h.2 h0
  exact ⟨ad, e, by omega, hc⟩⟩
end Go.Proofs.Ytlgkiookobedcaa
namespace Go.Proofs.Ytlgkiookobedcaa
open Go.RowKit
set_option linter.unusedVariables false
def tokV (l : List Tok) (i : Nat) : Value := tf (tokAt l (i / 3)).lit (tokAt l (i / 3)).len (tokAt l (i / 3)).dist (i % 3)
theorem tokV_0 (l : List Tok) (i : Nat) : tokV l (i * 3) = .int .u8 (tokAt l i).lit := by unfold tokV; rw [show i * 3 / 3 = i by omega, show i * 3 % 3 = 0 by omega]; rfl
theorem tokV_1 (l : List Tok) (i : Nat) : tokV l (i * 3 + 1) = .int .i64 (tokAt l i).len := by unfold tokV; rw [show (i * 3 + 1) / 3 = i by omega, show (i * 3 + 1) % 3 = 1 by omega]; rfl
theorem tokV_2 (l : List Tok) (i : Nat) : tokV l (i * 3 + 2) = .int .i64 (tokAt l i).dist := by unfold tokV; rw [show (i * 3 + 2) / 3 = i by omega, show (i * 3 + 2) % 3 = 2 by omega]; rfl
theorem tokV_one (l : List Tok) (i : Nat) : (tokV l i).oneCell' = true := by
  unfold tokV tf
  split <;> rfl
theorem RdT.of_rd {w : World} {B n : Nat} {A : Option Addr} {l : List Tok} (hn : n = l.length) (h : Rd w B A (n * 3) (tokV l)) : RdT w B A n l := ⟨hn, fun h0 => by
  obtain ⟨ad, e, hb, hc⟩ := h (by omega)
  exact ⟨ad, e, hb, fun i hi => ⟨by rw [hc _ (by omega), tokV_0], by rw [hc _ (by omega), tokV_1], by rw [hc _ (by omega), tokV_2]⟩⟩⟩
theorem RdT.rd {w : World} {B n : Nat} {A : Option Addr} {l : List Tok} (h : RdT w B A n l) : Rd w B A (n * 3) (tokV l) := fun h0 => by
  obtain ⟨ad, e, hb, hc⟩ := h.2 (by omega)
  refine ⟨ad, e, hb, fun i hi => ?_⟩
  obtain ⟨c0, c1, c2⟩ := hc (i / 3) (by omega)
  obtain h | h | h : i = i / 3 * 3 ∨ i = i / 3 * 3 + 1 ∨ i = i / 3 * 3 + 2 := by omega
  · rw [h, tokV_0]; exact c0
  · rw [h, tokV_1]; exact c1
  · rw [h, tokV_2]; exact c2
theorem tokAt_append (l l' : List Tok) (i : Nat) : tokAt (l ++ l') i = if i < l.length then tokAt l i else tokAt l' (i - l.length) := by
  unfold tokAt
  simp only [List.getD_eq_getElem?_getD]
  split
  · rw [List.getElem?_append_left (by assumption)]
  · rw [List.getElem?_append_right (by omega)]
theorem tokV_cat (l l' : List Tok) (i : Nat) : cat (l.length * 3) (tokV l) (tokV l') i = tokV (l ++ l') i := by
  unfold cat tokV
  rw [tokAt_append]
  by_cases h : i < l.length * 3
  · rw [if_pos h, if_pos (by omega)]
  · rw [if_neg h, if_neg (by omega), show (i - l.length * 3) / 3 = i / 3 - l.length by omega, show (i - l.length * 3) % 3 = i % 3 by omega]
def OwnT (w : World) (b0 : Nat) (A : Option Addr) (n c : Nat) (l : List Tok) : Prop := n = l.length ∧ Own w b0 68 3 A n c (tokV l)
theorem OwnT.rd {w : World} {b0 n c : Nat} {A : Option Addr} {l : List Tok} (h : OwnT w b0 A n c l) : RdT w w.heap.size A n l := RdT.of_rd h.1 h.2.rd
theorem OwnT.nil0 (w : World) (b0 : Nat) (hb : b0 ≤ w.heap.size) : OwnT (w.alloc (.cells #[] 68)) b0 (some ⟨w.heap.size, 0, none⟩) 0 0 [] :=
  ⟨rfl, Own.lit rfl #[] _ hb (by simp) (by simp) (fun i hi => by omega)⟩
theorem wtok_info : (Try.prog.info? 68).map (fun i => (i.zero, i.size, i.bytes)) = some (some (.agg #[.int .u8 0, .int .i64 0, .int .i64 0]), 3, 24) := by kernel_rfl
section
variable {w : World}
theorem wpList_appT {ops : Array Oper} {rest : List Oper} {o : Oper} {a : Act} {Q : Exit → Act → World → Prop} (b0 : Nat) (i : TypeInfo) (hgd : Region.wanted o (yielded ops a.tmps) = true) (s x : Operand)
    (ho : o.op = .call { callee := .builtin .append, args := #[s, x], argTypes := #[34, 34] }) (hi : Try.prog.info? 68 = some i) (hz : i.zero = some (.agg #[.int .u8 0, .int .i64 0, .int .i64 0]))
    (hsize : i.size = 3) (hby : i.bytes = 24) {A : Option Addr} {n c : Nat} {l : List Tok} (hs : a.eval s = .slice A n c) (hown : OwnT w b0 A n c l)
    {B : Nat} {A' : Option Addr} {m c' : Nat} {l' : List Tok} (hx : a.eval x = .slice A' m c') (hr : RdT w B A' m l')
    (h63 : n + m ≤ 1000000000000) (hbase : b0 ≤ w.heap.size)
    (h : ∀ A2 c2 w2, OwnT w2 b0 A2 (n + m) c2 (l ++ l') → w.grownBy w2 (blkOf A) → (blkOf A2 = blkOf A ∨ blkOf A2 = some w.heap.size) → wpList Try.prog ops Q rest (a.put o.dst (.slice A2 (n + m) c2)) w2) : wpList Try.prog ops Q (o :: rest) a w := by
  refine wpList_step fun K hK => ?_
  rw [if_pos hgd]
  obtain ⟨A2, c2, w2, hrun, h2, h3, h4⟩ := run_append_cat (P := Try.prog) w b0 34 o.type 68 i _ 3 24 Try.underlying34 hi hz hsize hby rfl (by omega) A n c _ hown.2 B A' m c' _ hr.rd (fun j _ => tokV_one l' j) h63 (by omega) hbase
  unfold Oper.wp execOp
  simp only [ho, resolve, invoke, builtin, Sem.run_bind, Sem.run_pure, Result.andThen_ok, List.map_toArray, List.map_cons, List.map_nil, hs, hx, hrun]
  exact hK _ _ (h A2 c2 w2 ⟨by rw [List.length_append, ← hown.1, ← hr.1], h2.congr fun j hj => by rw [hown.1, tokV_cat]⟩ h3 h4)
end
end Go.Proofs.Ytlgkiookobedcaa
namespace Go.Proofs.Ytlgkiookobedcaa
open Go.RowKit
set_option linter.unusedVariables false
set_option maxHeartbeats 1600000 in
theorem sound_any (L n d : Int) (w : World) : Calls Try.prog 59 #[.agg #[.int .u8 L, .int .i64 n, .int .i64 d]] w fun e w' => e = .returned (.bool (soundB L n d)) ∧ Below w.heap.size w w' := by
  have hb : ∀ o, Below w.heap.size w (w.alloc o) := fun o => (Below.refl _ _).alloc (Nat.le_refl _) o
  by_cases h0 : n = 0
  · rw [soundB_zero h0]
    by_cases hd : d = 0
    · subst h0 hd
      go_enter Try.func59, Try.ntmps59
      go_wp2
      go_ret
      exact ⟨rfl, hb _⟩
    · have hd2 : decide (d = 0) = false := by simpa using hd
      rw [hd2]
      subst h0
      go_enter Try.func59, Try.ntmps59
      go_wp2
      go_ret
      exact ⟨rfl, hb _⟩
  · rw [soundB_match h0]
    by_cases h : L = 0 ∧ 3 ≤ n ∧ n ≤ 258 ∧ 1 ≤ d ∧ d ≤ 32768
    · have hd2 : decide (L = 0 ∧ 3 ≤ n ∧ n ≤ 258 ∧ 1 ≤ d ∧ d ≤ 32768) = true := by simpa using h
      rw [hd2]
      obtain ⟨rfl, h1, h2, h3, h4⟩ := h
      go_enter Try.func59, Try.ntmps59
      go_wp2
      go_ret
      exact ⟨rfl, hb _⟩
    · have hd2 : decide (L = 0 ∧ 3 ≤ n ∧ n ≤ 258 ∧ 1 ≤ d ∧ d ≤ 32768) = false := by simpa using h
      rw [hd2]
      have hc : ¬ L = 0 ∨ (L = 0 ∧ ¬ 3 ≤ n) ∨ ((L = 0 ∧ 3 ≤ n) ∧ ¬ n ≤ 258) ∨ ((L = 0 ∧ 3 ≤ n ∧ n ≤ 258) ∧ ¬ 1 ≤ d) ∨ ((L = 0 ∧ 3 ≤ n ∧ n ≤ 258 ∧ 1 ≤ d) ∧ ¬ d ≤ 32768) := by omega
      clear h
      rcases hc with h | ⟨rfl, h⟩ | ⟨⟨rfl, h1⟩, h⟩ | ⟨⟨rfl, h1, h2⟩, h⟩ | ⟨⟨rfl, h1, h2, h3⟩, h⟩
      all_goals
        go_enter Try.func59, Try.ntmps59
        go_wp2
        go_ret
        exact ⟨rfl, hb _⟩
end Go.Proofs.Ytlgkiookobedcaa
namespace Go.Proofs.Ytlgkiookobedcaa
open Go Go.RowKit
set_option linter.unusedVariables false
theorem ext_ix2 {a b : List Int} (hl : a.length = b.length) (h : ∀ i, i < a.length → ix a i = ix b i) : a = b := by
  apply List.ext_getElem hl
  intro i h1 h2
  have := h i h1
  simpa [ix, h1, h2] using this
theorem ix_take (l : List Int) {n i : Nat} (h : i < n) : ix (l.take n) i = ix l i := by
  unfold ix
  simp only [List.getD_eq_getElem?_getD, List.getElem?_take, if_pos h]
theorem again_is {D : List Int} {at_ N d : Nat} (h1 : 1 ≤ d) (h2 : d ≤ at_) (h3 : at_ + N ≤ D.length) (h : ∀ i, i < N → ix D (at_ - d + i) = ix D (at_ + i)) : D.take at_ ++ again (D.take at_) d N = D.take (at_ + N) := by
  have hla : (D.take at_).length = at_ := by simp; omega
  have key : ∀ i, i < N → ix D (at_ + i) = ix D (at_ - d + i % d) := by
    intro i
    induction i using Nat.strongRecOn with
    | _ i ih =>
      intro hi
      by_cases hd : i < d
      · rw [Nat.mod_eq_of_lt hd, h i hi]
      · have h4 := ih (i - d) (by omega) (by omega)
        have h5 := h i hi
        rw [show at_ - d + i = at_ + (i - d) by omega, h4, ← Nat.mod_eq_sub_mod (by omega)] at h5
        exact h5.symm
  apply ext_ix2
  · simp [again_length]; omega
  · intro i hi
    rw [List.length_append, again_length, hla] at hi
    rw [ix_append, hla]
    by_cases hlt : i < at_
    · rw [if_pos hlt, ix_take _ hlt, ix_take _ (by omega)]
    · rw [if_neg hlt, ix_again _ _ _ (by omega), hla, ix_take _ (by have := Nat.mod_lt (i - at_) (show 0 < d by omega); omega), ix_take _ (by omega)]
      have := key (i - at_) (by omega)
      rw [show at_ + (i - at_) = i by omega] at this
      exact this.symm
theorem take_one (D : List Int) {n : Nat} (h : n < D.length) : D.take n ++ [ix D n] = D.take (n + 1) := by
  rw [List.take_succ_eq_append_getElem h]
  simp [ix, h]
theorem next_step {e : Eff} {st : FSt} (h : st.Ok st.at_) (hlt : st.at_ < st.D.length) (hbig : st.D.length ≤ 16777216) : step (st.D.take st.at_) (nextF e st).1 = (0, st.D.take (nextF e st).2.at_) := by
  obtain ⟨N, h1, h2, h3, -, -, h6, -, h7⟩ := next_ok (e := e) h hlt
  have hla : (st.D.take st.at_).length = st.at_ := by simp; omega
  rw [h6]
  rcases h7 with ⟨ht, rfl⟩ | ⟨d, ht, hg, -, h8⟩
  · rw [ht]
    unfold step litAt
    have hs : soundT ⟨ix st.D st.at_, 0, 0⟩ := by unfold soundT; simp
    rw [if_neg (by simpa using hs), hla, if_neg (by simp only; omega), if_pos rfl]
    simp only
    rw [take_one _ hlt]
  · rw [ht]
    rcases hg with ⟨hz, -⟩ | ⟨g1, g2, g3, g4, g5, g6, g7⟩
    · simp only at hz; omega
    · simp only at g1 g2 g3 g4 g5 g6 g7
      unfold step
      have hs : soundT ⟨0, N, d⟩ := by unfold soundT; rw [if_neg (show ¬ (N : Int) = 0 by omega)]; exact ⟨rfl, show (3 : Int) ≤ N by omega, show (N : Int) ≤ 258 by omega, show (1 : Int) ≤ d by omega, show (d : Int) ≤ 32768 by omega⟩
      have e1 : ¬ (16777216 < ((st.at_ : Nat) : Int) + max (N : Int) 1) := by omega
      have e2 : ¬ ((N : Int) = 0) := by omega
      have e3 : ¬ (((st.at_ : Nat) : Int) < (d : Int)) := by omega
      rw [if_neg (by simpa using hs), hla]
      simp only [if_neg e1, if_neg e2, if_neg e3, Int.toNat_natCast]
      rw [again_is g4 g6 h3 g7]
theorem run_expand {e : Eff} {left : Nat} {st st' : FSt} {l : List Tok} (h : Run e left st l st') (hok : st.Ok st.at_) (hbig : st.D.length ≤ 16777216) (out : List Int) (pre : List Tok) (hp : expand [] pre = (0, st.D.take st.at_)) : expand [] (pre ++ l) = (0, st'.D.take st'.at_) := by
  induction h with
  | nil => rw [List.append_nil]; exact hp
  | snoc h1 h2 ih =>
    obtain ⟨i1, i2, i3, i4⟩ := run_ok h1 hok
    have hs := next_step (e := e) i1 (by omega) (by rw [i2]; exact hbig)
    obtain ⟨N, n1, -, -, n4, n5, n6, n7, -⟩ := next_ok (e := e) i1 (by omega)
    rw [← List.append_assoc, expand_append, ih]
    simp only [if_pos]
    rw [expand_cons, hs]
    simp only [if_pos]
    rw [n5]; rfl
end Go.Proofs.Ytlgkiookobedcaa
namespace Go.Proofs.Ytlgkiookobedcaa
open Go Go.RowKit
set_option linter.unusedVariables false
theorem Run.cons_ {e : Eff} {left : Nat} {st st' : FSt} {l : List Tok} (h : left < st.D.length - st.at_) (hr : Run e left (nextF e st).2 l st') : Run e left st ((nextF e st).1 :: l) st' := by
  induction hr with
  | nil => exact Run.snoc (Run.nil st) h
  | snoc h1 h2 ih => exact Run.snoc (l := (nextF e st).1 :: _) ih h2
theorem Run.inv {e : Eff} {left : Nat} {st st' : FSt} {l : List Tok} (h : Run e left st l st') : (l = [] ∧ st' = st) ∨ ∃ l2, left < st.D.length - st.at_ ∧ l = (nextF e st).1 :: l2 ∧ Run e left (nextF e st).2 l2 st' := by
  induction h with
  | nil => exact .inl ⟨rfl, rfl⟩
  | snoc h1 h2 ih =>
    rcases ih with ⟨rfl, rfl⟩ | ⟨l2, h3, rfl, h5⟩
    · exact .inr ⟨[], h2, rfl, .nil _⟩
    · exact .inr ⟨_, h3, rfl, Run.snoc h5 h2⟩
end Go.Proofs.Ytlgkiookobedcaa
namespace Go.Proofs.Ytlgkiookobedcaa
open Go.RowKit
set_option linter.unusedVariables false
section
variable {P : Program} (t e : TypeId) (ht : P.underlying t = some (.slice e)) {i : TypeInfo} (hi : P.info? e = some i)
include ht hi
theorem run_slice_cap (A : Option Addr) (n c : Nat) {j : Nat} (hj : j ≤ c) (W : World) :
    (Instr.slice t (.slice A n c) none (some (.int .i64 (j : Int))) (some (.int .i64 (j : Int)))).run P W = .ok (.slice A j j) W := by
  have he : P.elem t = e := by simp [Program.elem, ht]
  rw [run_slice_hm W t A n c (by rw [he]; exact ht) .i64 .i64 j j (by omega) (by omega) (by omega), he]
  simp [sizeOf, typeInfo, hi, sliced]
  cases A <;> simp [Addr.add]
theorem run_slice_fromS {sz : Nat} (hs : i.size = sz) (A : Option Addr) (n c : Nat) {j : Nat} (hj : j ≤ n) (W : World) :
    (Instr.slice t (.slice A n c) (some (.int .i64 (j : Int))) none none).run P W = .ok (.slice (if c = j then A else A.map (·.add (j * sz))) (n - j) (c - j)) W := by
  have he : P.elem t = e := by simp [Program.elem, ht]
  rw [run_slice_l W t A n c (by rw [he]; exact ht) .i64 j (by omega) (by omega), he]
  simp [sizeOf, typeInfo, hi, hs, sliced]
end
theorem RdT.pre {w : World} {B n : Nat} {A : Option Addr} {l : List Tok} (h : RdT w B A n l) {j : Nat} (hj : j ≤ n) : RdT w B A j (l.take j) := by
  refine ⟨by rw [List.length_take, ← h.1]; omega, fun h0 => ?_⟩
  obtain ⟨ad, e, hb, hc⟩ := h.2 (by omega)
  refine ⟨ad, e, hb, fun i hi => ?_⟩
  have ht : tokAt (l.take j) i = tokAt l i := by unfold tokAt; simp [List.getD_eq_getElem?_getD, hi]
  rw [ht]
  exact hc i (by omega)
theorem RdT.from_ {w : World} {B n c : Nat} {A : Option Addr} {l : List Tok} (h : RdT w B A n l) {j : Nat} (hj : j ≤ n) (hc : n ≤ c) : RdT w B (if c = j then A else A.map (·.add (j * 3))) (n - j) (l.drop j) := by
  refine ⟨by rw [List.length_drop, ← h.1], fun h0 => ?_⟩
  obtain ⟨ad, rfl, hb, hcs⟩ := h.2 (by omega)
  rw [if_neg (by omega)]
  refine ⟨_, rfl, by rw [addr_block]; exact hb, fun i hi => ?_⟩
  have ht : tokAt (l.drop j) i = tokAt l (j + i) := by unfold tokAt; simp [List.getD_eq_getElem?_getD, List.getElem?_drop]
  rw [ht]
  have e1 : ∀ q : Nat, (ad.add (j * 3)).add q = ad.add (j * 3 + q) := fun q => by unfold Addr.add; split <;> split <;> simp_all <;> omega
  have := hcs (j + i) (by omega)
  rw [e1, e1, e1, ← Nat.add_assoc, ← Nat.add_assoc, ← Nat.add_mul]
  exact this
end Go.Proofs.Ytlgkiookobedcaa
