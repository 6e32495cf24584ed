/-
  Several texts in one (written by pack2.py): TokM, TokO, Sound, RExp, TokL, SameT.
-/
import Derived.Test.YtckhkkjdibcclaaProg
import Derived.Test.YtckhkkjdibcclaaPk4
import Derived.Test.YtckhkkjdibcclaaPk9
/-
  Words for lists of tokens in memory; what they stand for.
-/
namespace Go.Proofs.Ytckhkkjdibcclaa
open Go.RowKit
set_option linter.unusedVariables false

theorem tmbyte_info : (Try.prog.info? 5).map (fun i => (i.zero, i.size, i.bytes)) = some (some (.int .u8 0), 1, 1) := by kernel_rfl
theorem addr_next (a : Addr) (m j : Nat) (hj : 0 < j) : a.add (m + j) = ⟨(a.add m).block, (a.add m).off + j, none⟩ := by
  unfold Addr.add
  rw [if_neg (by simp; omega)]
  by_cases hm : m = 0
  · subst hm; simp
  · simp [hm, Nat.add_assoc]
/-- the fields of the token at place i -/
def tokAt (l : List Tok) (i : Nat) : Tok := l.getD i ⟨0, 0, 0⟩
/-- A slice of tokens that reads as l. -/
def RdT (w : World) (B : Nat) (A : Option Addr) (n : Nat) (l : List Tok) : Prop :=
  n = l.length ∧ (0 < n → ∃ ad, A = some ad ∧ ad.block < B ∧ ∀ i, i < n → w.cell? (ad.add (i * 3)) = some (.int .u8 (tokAt l i).lit) ∧ w.cell? (ad.add (i * 3 + 1)) = some (.int .i64 (tokAt l i).len) ∧ w.cell? (ad.add (i * 3 + 2)) = some (.int .i64 (tokAt l i).dist))

theorem RdT.drop_ {l : List Tok} {n k : Nat} (hn : n = l.length) (hk : k < n) : l.drop k = tokAt l k :: l.drop (k + 1) := by
  rw [List.drop_eq_getElem_cons (by omega)]
  simp [tokAt, List.getD_eq_getElem?_getD, show k < l.length by omega]
def tf (L N D : Int) : Nat → Value
  | 0 => .int .u8 L
  | 1 => .int .i64 N
  | _ => .int .i64 D
theorem tf_new (w : World) (L N D : Int) (t : TypeId) : Ar (w.alloc (.cells #[.int .u8 L, .int .i64 N, .int .i64 D] t)) w.heap.size 3 (tf L N D) :=
  Ar.new w _ t rfl fun i hi => by
    obtain rfl | rfl | rfl : i = 0 ∨ i = 1 ∨ i = 2 := by omega
    · rfl
    · rfl
    · rfl
def soundB (L n d : Int) : Bool := if n = 0 then decide (d = 0) else decide (L = 0 ∧ 3 ≤ n ∧ n ≤ 258 ∧ 1 ≤ d ∧ d ≤ 32768)
theorem soundB_zero {L n d : Int} (h : n = 0) : soundB L n d = decide (d = 0) := by unfold soundB; rw [if_pos h]
theorem soundB_match {L n d : Int} (h : ¬ n = 0) : soundB L n d = decide (L = 0 ∧ 3 ≤ n ∧ n ≤ 258 ∧ 1 ≤ d ∧ d ≤ 32768) := by unfold soundB; rw [if_neg h]
def ExpPost (w : World) (l : List Tok) (e : Ending) (w' : World) : Prop :=
  ∃ A n c, e = .returned (.tuple #[.slice A n c, .int .i64 (expand [] l).1]) ∧ OwnI .u8 w' w.heap.size 5 A n c (expand [] l).2 ∧ Below w.heap.size w w'
theorem soundB_iff (L N D : Int) : soundB L N D = decide (soundT ⟨L, N, D⟩) := by
  unfold soundB soundT
  by_cases h : N = 0
  · simp [h]
  · simp [h]

theorem expand_append (out : List Int) (a b : List Tok) : expand out (a ++ b) = if (expand out a).1 = 0 then expand (expand out a).2 b else expand out a := by
  induction a generalizing out with
  | nil => rfl
  | cons t a ih =>
    rw [List.cons_append, expand_cons, expand_cons]
    by_cases h : (step out t).1 = 0
    · rw [if_pos h, if_pos h, ih]
    · rw [if_neg h, if_neg h, if_neg h]
theorem step_err {out : List Int} {t : Tok} (h : (step out t).1 ≠ 0) : (step out t).2 = [] := by
  unfold step at h ⊢
  split
  · rfl
  · rename_i h1
    rw [if_neg h1] at h
    split
    · rfl
    · rename_i h2
      rw [if_neg h2] at h
      split
      · rename_i h3; rw [if_pos h3] at h; exact absurd rfl h
      · rename_i h3
        rw [if_neg h3] at h
        split
        · rfl
        · rename_i h4; rw [if_neg h4] at h; exact absurd rfl h
theorem step_ok {out : List Int} {t : Tok} (h : (step out t).1 = 0) : ∃ z, (step out t).2 = out ++ z := by
  unfold step at h ⊢
  split
  · rename_i h1; rw [if_pos h1] at h; simp at h
  · rename_i h1
    rw [if_neg h1] at h
    split
    · rename_i h2; rw [if_pos h2] at h; simp at h
    · rename_i h2
      rw [if_neg h2] at h
      split
      · exact ⟨_, rfl⟩
      · rename_i h3
        rw [if_neg h3] at h
        split
        · rename_i h4; rw [if_pos h4] at h; simp at h
        · exact ⟨_, rfl⟩
theorem expand_err {out : List Int} {l : List Tok} (h : (expand out l).1 ≠ 0) : (expand out l).2 = [] := by
  induction l generalizing out with
  | nil => exact absurd rfl h
  | cons t l ih =>
    rw [expand_cons] at h ⊢
    by_cases hs : (step out t).1 = 0
    · rw [if_pos hs] at h ⊢; exact ih h
    · rw [if_neg hs] at h ⊢; exact step_err h
theorem expand_ok {out : List Int} {l : List Tok} (h : (expand out l).1 = 0) : ∃ z, (expand out l).2 = out ++ z := by
  induction l generalizing out with
  | nil => exact ⟨[], by simp [expand]⟩
  | cons t l ih =>
    rw [expand_cons] at h ⊢
    by_cases hs : (step out t).1 = 0
    · rw [if_pos hs] at h ⊢
      obtain ⟨z, hz⟩ := ih h
      obtain ⟨y, hy⟩ := step_ok hs
      exact ⟨y ++ z, by rw [hz, hy, List.append_assoc]⟩
    · rw [if_neg hs] at h; exact absurd h hs
theorem expand_le {out : List Int} {l : List Tok} (h : out.length ≤ 16777216) : (expand out l).2.length ≤ 16777216 := by
  induction l generalizing out with
  | nil => exact h
  | cons t l ih =>
    rw [expand_cons]
    by_cases hs : (step out t).1 = 0
    · rw [if_pos hs]; exact ih (step_len hs).1
    · rw [if_neg hs, step_err hs]; simp
theorem RdT.below {w w' : World} {B n : Nat} {A : Option Addr} {l : List Tok} (h : RdT w B A n l) (hb : Below B w w') : RdT w' B A n l := ⟨h.1, fun h0 => by
  obtain ⟨ad, e, hB, hc⟩ := h.2 h0
  exact ⟨ad, e, hB, fun i hi => by
    obtain ⟨c0, c1, c2⟩ := hc i hi
    exact ⟨(hb.cell (by rw [addr_block]; exact hB)).trans c0, (hb.cell (by rw [addr_block]; exact hB)).trans c1, (hb.cell (by rw [addr_block]; exact hB)).trans c2⟩⟩⟩
theorem RdT.more {w : World} {B B' n : Nat} {A : Option Addr} {l : List Tok} (h : RdT w B A n l) (hb : B ≤ B') : RdT w B' A n l := ⟨h.1, fun h0 => by
  obtain ⟨ad, e, hB, hc⟩ := h.2 h0
  exact ⟨ad, e, by omega, hc⟩⟩
end Go.Proofs.Ytckhkkjdibcclaa

/-
  Lists of tokens in memory: append.
-/
namespace Go.Proofs.Ytckhkkjdibcclaa
open Go.RowKit
set_option linter.unusedVariables false

/-- the cells of a list of tokens, one after the other -/
def tokV (l : List Tok) (i : Nat) : Value := tf (tokAt l (i / 3)).lit (tokAt l (i / 3)).len (tokAt l (i / 3)).dist (i % 3)
theorem tokV_0 (l : List Tok) (i : Nat) : tokV l (i * 3) = .int .u8 (tokAt l i).lit := by unfold tokV; rw [show i * 3 / 3 = i by omega, show i * 3 % 3 = 0 by omega]; rfl
theorem tokV_1 (l : List Tok) (i : Nat) : tokV l (i * 3 + 1) = .int .i64 (tokAt l i).len := by unfold tokV; rw [show (i * 3 + 1) / 3 = i by omega, show (i * 3 + 1) % 3 = 1 by omega]; rfl
theorem tokV_2 (l : List Tok) (i : Nat) : tokV l (i * 3 + 2) = .int .i64 (tokAt l i).dist := by unfold tokV; rw [show (i * 3 + 2) / 3 = i by omega, show (i * 3 + 2) % 3 = 2 by omega]; rfl
theorem tokV_one (l : List Tok) (i : Nat) : (tokV l i).oneCell' = true := by
  unfold tokV tf
  split <;> rfl
theorem RdT.of_rd {w : World} {B n : Nat} {A : Option Addr} {l : List Tok} (hn : n = l.length) (h : Rd w B A (n * 3) (tokV l)) : RdT w B A n l := ⟨hn, fun h0 => by
  obtain ⟨ad, e, hb, hc⟩ := h (by omega)
  exact ⟨ad, e, hb, fun i hi => ⟨by rw [hc _ (by omega), tokV_0], by rw [hc _ (by omega), tokV_1], by rw [hc _ (by omega), tokV_2]⟩⟩⟩
theorem RdT.rd {w : World} {B n : Nat} {A : Option Addr} {l : List Tok} (h : RdT w B A n l) : Rd w B A (n * 3) (tokV l) := fun h0 => by
  obtain ⟨ad, e, hb, hc⟩ := h.2 (by omega)
  refine ⟨ad, e, hb, fun i hi => ?_⟩
  obtain ⟨c0, c1, c2⟩ := hc (i / 3) (by omega)
  obtain h | h | h : i = i / 3 * 3 ∨ i = i / 3 * 3 + 1 ∨ i = i / 3 * 3 + 2 := by omega
  · rw [h, tokV_0]; exact c0
  · rw [h, tokV_1]; exact c1
  · rw [h, tokV_2]; exact c2
theorem tokAt_append (l l' : List Tok) (i : Nat) : tokAt (l ++ l') i = if i < l.length then tokAt l i else tokAt l' (i - l.length) := by
  unfold tokAt
  simp only [List.getD_eq_getElem?_getD]
  split
  · rw [List.getElem?_append_left (by assumption)]
  · rw [List.getElem?_append_right (by omega)]
theorem tokV_cat (l l' : List Tok) (i : Nat) : cat (l.length * 3) (tokV l) (tokV l') i = tokV (l ++ l') i := by
  unfold cat tokV
  rw [tokAt_append]
  by_cases h : i < l.length * 3
  · rw [if_pos h, if_pos (by omega)]
  · rw [if_neg h, if_neg (by omega), show (i - l.length * 3) / 3 = i / 3 - l.length by omega, show (i - l.length * 3) % 3 = i % 3 by omega]
def OwnT (w : World) (b0 : Nat) (A : Option Addr) (n c : Nat) (l : List Tok) : Prop := n = l.length ∧ Own w b0 27 3 A n c (tokV l)
theorem OwnT.rd {w : World} {b0 n c : Nat} {A : Option Addr} {l : List Tok} (h : OwnT w b0 A n c l) : RdT w w.heap.size A n l := RdT.of_rd h.1 h.2.rd
theorem OwnT.nil0 (w : World) (b0 : Nat) (hb : b0 ≤ w.heap.size) : OwnT (w.alloc (.cells #[] 27)) b0 (some ⟨w.heap.size, 0, none⟩) 0 0 [] :=
  ⟨rfl, Own.lit rfl #[] _ hb (by simp) (by simp) (fun i hi => by omega)⟩
theorem wtok_info : (Try.prog.info? 27).map (fun i => (i.zero, i.size, i.bytes)) = some (some (.agg #[.int .u8 0, .int .i64 0, .int .i64 0]), 3, 24) := by kernel_rfl
section
variable {w : World}
theorem wpList_appT {ops : Array Oper} {rest : List Oper} {o : Oper} {a : Act} {Q : Exit → Act → World → Prop} (b0 : Nat) (i : TypeInfo) (hgd : Region.wanted o (yielded ops a.tmps) = true) (s x : Operand)
    (ho : o.op = .call { callee := .builtin .append, args := #[s, x], argTypes := #[22, 22] }) (hi : Try.prog.info? 27 = some i) (hz : i.zero = some (.agg #[.int .u8 0, .int .i64 0, .int .i64 0]))
    (hsize : i.size = 3) (hby : i.bytes = 24) {A : Option Addr} {n c : Nat} {l : List Tok} (hs : a.eval s = .slice A n c) (hown : OwnT w b0 A n c l)
    {B : Nat} {A' : Option Addr} {m c' : Nat} {l' : List Tok} (hx : a.eval x = .slice A' m c') (hr : RdT w B A' m l')
    (h63 : n + m ≤ 1000000000000) (hbase : b0 ≤ w.heap.size)
    (h : ∀ A2 c2 w2, OwnT w2 b0 A2 (n + m) c2 (l ++ l') → w.grownBy w2 (blkOf A) → (blkOf A2 = blkOf A ∨ blkOf A2 = some w.heap.size) → wpList Try.prog ops Q rest (a.put o.dst (.slice A2 (n + m) c2)) w2) : wpList Try.prog ops Q (o :: rest) a w := by
  refine wpList_step fun K hK => ?_
  rw [if_pos hgd]
  obtain ⟨A2, c2, w2, hrun, h2, h3, h4⟩ := run_append_cat (P := Try.prog) w b0 22 o.type 27 i _ 3 24 Try.underlying22 hi hz hsize hby rfl (by omega) A n c _ hown.2 B A' m c' _ hr.rd (fun j _ => tokV_one l' j) h63 (by omega) hbase
  unfold Oper.wp execOp
  simp only [ho, resolve, invoke, builtin, Sem.run_bind, Sem.run_pure, Result.andThen_ok, List.map_toArray, List.map_cons, List.map_nil, hs, hx, hrun]
  exact hK _ _ (h A2 c2 w2 ⟨by rw [List.length_append, ← hown.1, ← hr.1], h2.congr fun j hj => by rw [hown.1, tokV_cat]⟩ h3 h4)
end
end Go.Proofs.Ytckhkkjdibcclaa

/-
  The walks of Sound and of the statements' own answers, layer 08.
-/
namespace Go.Proofs.Ytckhkkjdibcclaa
open Go.RowKit
set_option linter.unusedVariables false

set_option maxHeartbeats 1600000 in
theorem sound_any (L n d : Int) (w : World) : Calls Try.prog 45 #[.agg #[.int .u8 L, .int .i64 n, .int .i64 d]] w fun e w' => e = .returned (.bool (soundB L n d)) ∧ Below w.heap.size w w' := by
  have hb : ∀ o, Below w.heap.size w (w.alloc o) := fun o => (Below.refl _ _).alloc (Nat.le_refl _) o
  by_cases h0 : n = 0
  · rw [soundB_zero h0]
    by_cases hd : d = 0
    · subst h0 hd
      go_enter Try.func45, Try.ntmps45
      go_wp2
      go_ret
      exact ⟨rfl, hb _⟩
    · have hd2 : decide (d = 0) = false := by simpa using hd
      rw [hd2]
      subst h0
      go_enter Try.func45, Try.ntmps45
      go_wp2
      go_ret
      exact ⟨rfl, hb _⟩
  · rw [soundB_match h0]
    by_cases h : L = 0 ∧ 3 ≤ n ∧ n ≤ 258 ∧ 1 ≤ d ∧ d ≤ 32768
    · have hd2 : decide (L = 0 ∧ 3 ≤ n ∧ n ≤ 258 ∧ 1 ≤ d ∧ d ≤ 32768) = true := by simpa using h
      rw [hd2]
      obtain ⟨rfl, h1, h2, h3, h4⟩ := h
      go_enter Try.func45, Try.ntmps45
      go_wp2
      go_ret
      exact ⟨rfl, hb _⟩
    · have hd2 : decide (L = 0 ∧ 3 ≤ n ∧ n ≤ 258 ∧ 1 ≤ d ∧ d ≤ 32768) = false := by simpa using h
      rw [hd2]
      have hc : ¬ L = 0 ∨ (L = 0 ∧ ¬ 3 ≤ n) ∨ ((L = 0 ∧ 3 ≤ n) ∧ ¬ n ≤ 258) ∨ ((L = 0 ∧ 3 ≤ n ∧ n ≤ 258) ∧ ¬ 1 ≤ d) ∨ ((L = 0 ∧ 3 ≤ n ∧ n ≤ 258 ∧ 1 ≤ d) ∧ ¬ d ≤ 32768) := by omega
      clear h
      rcases hc with h | ⟨rfl, h⟩ | ⟨⟨rfl, h1⟩, h⟩ | ⟨⟨rfl, h1, h2⟩, h⟩ | ⟨⟨rfl, h1, h2, h3⟩, h⟩
      all_goals
        go_enter Try.func45, Try.ntmps45
        go_wp2
        go_ret
        exact ⟨rfl, hb _⟩

end Go.Proofs.Ytckhkkjdibcclaa

/-
  The walks of the reference's Sound and Expand.
-/
namespace Go.Proofs.Ytckhkkjdibcclaa
open Go.RowKit
set_option linter.unusedVariables false

set_option maxHeartbeats 1600000 in
theorem rsound_any (L n d : Int) (w : World) : Calls Try.prog 25 #[.agg #[.int .u8 L, .int .i64 n, .int .i64 d]] w fun e w' => e = .returned (.bool (soundB L n d)) ∧ Below w.heap.size w w' := by
  have hb : ∀ o, Below w.heap.size w (w.alloc o) := fun o => (Below.refl _ _).alloc (Nat.le_refl _) o
  by_cases h0 : n = 0
  · rw [soundB_zero h0]
    by_cases hd : d = 0
    · subst h0 hd
      go_enter Try.func25, Try.ntmps25
      go_wp2
      go_ret
      exact ⟨rfl, hb _⟩
    · have hd2 : decide (d = 0) = false := by simpa using hd
      have hd3 : (d == 0) = false := by simpa using hd
      rw [hd2]
      subst h0
      go_enter Try.func25, Try.ntmps25
      go_wp2
      go_ret
      exact ⟨rfl, hb _⟩
  · rw [soundB_match h0]
    by_cases h : L = 0 ∧ 3 ≤ n ∧ n ≤ 258 ∧ 1 ≤ d ∧ d ≤ 32768
    · have hd2 : decide (L = 0 ∧ 3 ≤ n ∧ n ≤ 258 ∧ 1 ≤ d ∧ d ≤ 32768) = true := by simpa using h
      rw [hd2]
      obtain ⟨rfl, h1, h2, h3, h4⟩ := h
      go_enter Try.func25, Try.ntmps25
      go_wp2
      go_ret
      exact ⟨rfl, hb _⟩
    · have hd2 : decide (L = 0 ∧ 3 ≤ n ∧ n ≤ 258 ∧ 1 ≤ d ∧ d ≤ 32768) = false := by simpa using h
      rw [hd2]
      have hc : ¬ L = 0 ∨ (L = 0 ∧ ¬ 3 ≤ n) ∨ ((L = 0 ∧ 3 ≤ n) ∧ ¬ n ≤ 258) ∨ ((L = 0 ∧ 3 ≤ n ∧ n ≤ 258) ∧ ¬ 1 ≤ d) ∨ ((L = 0 ∧ 3 ≤ n ∧ n ≤ 258 ∧ 1 ≤ d) ∧ ¬ d ≤ 32768) := by omega
      clear h
      rcases hc with h | ⟨rfl, h⟩ | ⟨⟨rfl, h1⟩, h⟩ | ⟨⟨rfl, h1, h2⟩, h⟩ | ⟨⟨rfl, h1, h2, h3⟩, h⟩
      all_goals
        go_enter Try.func25, Try.ntmps25
        go_wp2
        go_ret
        exact ⟨rfl, hb _⟩


def RexpRel (w : World) (l : List Tok) (n : Nat) (o i : Value) (wr : World) : Prop :=
  ∃ (k : Nat) (out : List Int) (A : Option Addr) (m d : Nat), k ≤ n ∧ i = .int .i64 k ∧ o = .slice A m d ∧ OwnI .u8 wr w.heap.size 5 A m d out ∧ Below w.heap.size w wr ∧ expand out (l.drop k) = expand [] l ∧ out.length ≤ 16777216
def RexpIn (w : World) (out : List Int) (D N : Nat) (o j : Value) (wr : World) : Prop :=
  ∃ (k : Nat) (A : Option Addr) (m d : Nat), k ≤ N ∧ j = .int .i64 k ∧ o = .slice A m d ∧ OwnI .u8 wr w.heap.size 5 A m d (out ++ again out D k) ∧ Below w.heap.size w wr

set_option maxRecDepth 100000 in
set_option maxHeartbeats 8000000 in
theorem rexpand_any (w : World) (A : Option Addr) (n c : Nat) (l : List Tok) (hr : RdT w w.heap.size A n l) (hn : (n : Int) ≤ 1000000000000) :
    Calls Try.prog 21 #[.slice A n c] w (ExpPost w l) := by
  obtain ⟨i0, hi, hz0, hz1, hz2⟩ := info_parts tmbyte_info
  have Hi := Lib.hid hi
  have Hz0 := Lib.hid hz0
  have Hz1 := Lib.hid hz1
  have Hz2 := Lib.hid hz2
  clear hi hz0 hz1 hz2
  go_enter Try.func21, Try.ntmps21
  go_wp2_with fail
  go_loopw [4, 5] (RexpRel w l n) (fun _ i _ => n - (intOf i).toNat)
  case atStart => exact ⟨0, [], none, 0, 0, Nat.zero_le _, rfl, rfl, OwnI.nil_, Below.refl _ _, rfl, by simp⟩
  case round =>
    obtain ⟨k, out, A1, m, d, hk, rfl, rfl, ho, hb, hex, hol⟩ := hrel
    by_cases hlt : k < n
    · obtain ⟨ad, rfl, hbl, hcs⟩ := hr.2 (by omega)
      have hk0 : (0 : Int) ≤ k ∧ (k : Int) < n := by omega
      obtain ⟨a0, a1, a2⟩ := hcs k hlt
      rw [addr_next _ _ _ (by omega)] at a1 a2
      rw [RdT.drop_ hr.1 hlt, expand_cons] at hex
      obtain ⟨⟨L, N, D⟩, ht⟩ : ∃ t : Tok, tokAt l k = t := ⟨_, rfl⟩
      rw [ht] at a0 a1 a2 hex
      have HEX := Lib.hid hex
      clear ht hcs hex
      replace a0 : w.cell? (ad.add (k * 3)) = some (.int .u8 L) := a0
      replace a1 : w.cell? { block := (ad.add (k * 3)).block, off := (ad.add (k * 3)).off + 1 } = some (.int .i64 N) := a1
      replace a2 : w.cell? { block := (ad.add (k * 3)).block, off := (ad.add (k * 3)).off + 2 } = some (.int .i64 D) := a2
      have hab : (ad.add (k * 3)).block < w.heap.size := by rw [addr_block]; exact hbl
      have HA0 := Lib.hid a0
      have HA1 := Lib.hid a1
      have HA2 := Lib.hid a2
      replace a0 := (hb.cell hab (p := ad.add (k * 3))).trans a0
      replace a1 := (hb.cell hab (p := ⟨(ad.add (k * 3)).block, (ad.add (k * 3)).off + 1, none⟩)).trans a1
      replace a2 := (hb.cell hab (p := ⟨(ad.add (k * 3)).block, (ad.add (k * 3)).off + 2, none⟩)).trans a2
      have hm := ho.1
      have hmI : (m : Int) ≤ 16777216 := by omega
      have HOL := Lib.hid hol
      have HMM := Lib.hid hm
      have hHm : Hid ((out.length : Int) = (m : Int)) := by show _ = _; omega
      clear hol
      by_cases hS : soundT ⟨L, N, D⟩
      · have hs : soundB L N D = true := by rw [soundB_iff]; simpa using hS
        have hSv : (N = 0 ∧ D = 0) ∨ (¬ N = 0 ∧ L = 0 ∧ 3 ≤ N ∧ N ≤ 258 ∧ 1 ≤ D ∧ D ≤ 32768) := by
          unfold soundT at hS
          by_cases h : N = 0
          · rw [if_pos h] at hS; exact .inl ⟨h, hS⟩
          · rw [if_neg h] at hS; exact .inr ⟨h, hS⟩
        by_cases hcap : 16777216 < (m : Int) + max N 1
        · have hst : step out ⟨L, N, D⟩ = (6, []) := by unfold step; rw [if_neg (by simpa using hS), if_pos (by rw [hHm.out]; exact hcap)]
          have hfin : (6, []) = expand [] l := by rw [← HEX.out, hst]; rfl
          have HF := Lib.hid hfin
          clear hfin hst hS
          clear hm
          have hcs : (N = 0 ∧ (16777216 : Int) ≤ (m : Int)) ∨ ((((N : Int) == 0) = false ∧ 3 ≤ N ∧ N ≤ 258) ∧ 16777216 < (m : Int) + N) := by
            rcases hSv with ⟨h, _⟩ | ⟨h, _, h1, h2, _⟩
            · exact .inl ⟨h, by omega⟩
            · exact .inr ⟨⟨by simpa using h, h1, h2⟩, by omega⟩
          clear hcap hSv
          rcases hcs with ⟨rfl, hcap⟩ | ⟨h1, hcap⟩
          all_goals
            go_wp2_with fail
            refine (rsound_any L _ D _).mono ?_
            rintro e w2 ⟨rfl, hb2⟩
            rw [hs]
            have hbw2 := hb.trans (hb2.mono hb.size)
            have e1 := (hbw2.cell hab (p := ⟨(ad.add (k * 3)).block, (ad.add (k * 3)).off + 1, none⟩)).trans HA1.out
            go_wp2
            go_ret2
            exact ⟨none, 0, 0, by rw [← HF.out]; rfl, by rw [← HF.out]; exact OwnI.nil_, hbw2⟩
        · rcases hSv with ⟨rfl, rfl⟩ | ⟨h0, rfl, h1, h2, h3, h4⟩
          · have hst : step out ⟨L, 0, 0⟩ = (0, out ++ [L]) := by unfold step; rw [if_neg (by simpa using hS), if_neg (by rw [hHm.out]; exact hcap), if_pos rfl]
            have HC : Hid (m + 1 ≤ 16777216) := by show _ ≤ _; omega
            have hcap2 : ((16777216 : Int) ≤ (m : Int)) = False := eq_false (by omega)
            have hcap3 : ((16777216 : Int) < (m : Int)) = False := eq_false (by omega)
            have hnx : expand (out ++ [L]) (l.drop (k + 1)) = expand [] l := by rw [← HEX.out, hst]; rfl
            have HF := Lib.hid hnx
            clear hnx hst hS hcap hm
            go_wp2_with fail
            refine (rsound_any L _ _ _).mono ?_
            rintro e w2 ⟨rfl, hb2⟩
            rw [hs]
            have hbw2 := hb.trans (hb2.mono hb.size)
            have e0 := (hbw2.cell hab (p := ad.add (k * 3))).trans HA0.out
            have e1 := (hbw2.cell hab (p := ⟨(ad.add (k * 3)).block, (ad.add (k * 3)).off + 1, none⟩)).trans HA1.out
            have ho2 := (ho.keeps hb2).alloc (.cells #[.int .u8 L] 5)
            have hb2a := hbw2.alloc hbw2.size (.cells #[.int .u8 L] 5)
            go_wp2_with (at_builtin; (refine wpList_app .u8 w.heap.size 5 i0 1 rfl (.tmp 47) (.tmp 53) _ rfl Try.underlying36 Hi.out Hz0.out Hz1.out Hz2.out rfl ho2 rfl (RdI.lit .u8 w2 [L] 5) (by omega) (by omega) (by have := hb2a.size; exact this) ?_)
                         intro A4 d4 w4 hown4 hg4 hat4)
            go_roundw
            case rel =>
              exact ⟨k + 1, out ++ [L], A4, m + 1, d4, by omega, by go_num, rfl, hown4, hb2a.grown hg4 hb2a.size (fun q hq => (ho.2.lt hq).1), HF.out, by have := HC.out; have := HMM.out; simp; omega⟩
            case measure => simp [intOf]; omega
          · obtain ⟨N, rfl⟩ := Int.eq_ofNat_of_zero_le (show 0 ≤ N by omega)
            obtain ⟨D, rfl⟩ := Int.eq_ofNat_of_zero_le (show 0 ≤ D by omega)
            have hN0 : ((N : Int) == 0) = false := by simpa using h0
            have hcap2 : ((16777216 : Int) < (m : Int) + (N : Int)) = False := eq_false (by omega)
            have HC : Hid (m + N ≤ 16777216) := by show _ ≤ _; omega
            by_cases hfar : m < D
            · have hst : step out ⟨0, N, D⟩ = (3, []) := by unfold step; rw [if_neg (by simpa using hS), if_neg (by rw [hHm.out]; exact hcap), if_neg h0, if_pos (by show (out.length : Int) < (D : Int); omega)]
              have hfin : (3, []) = expand [] l := by rw [← HEX.out, hst]; rfl
              have HF := Lib.hid hfin
              have hfI : (m : Int) < (D : Int) := by omega
              clear hfin hst hS hcap hm hfar
              go_wp2_with fail
              refine (rsound_any 0 _ _ _).mono ?_
              rintro e w2 ⟨rfl, hb2⟩
              rw [hs]
              have hbw2 := hb.trans (hb2.mono hb.size)
              have e1 := (hbw2.cell hab (p := ⟨(ad.add (k * 3)).block, (ad.add (k * 3)).off + 1, none⟩)).trans HA1.out
              have e2 := (hbw2.cell hab (p := ⟨(ad.add (k * 3)).block, (ad.add (k * 3)).off + 2, none⟩)).trans HA2.out
              go_wp2
              go_ret2
              exact ⟨none, 0, 0, by rw [← HF.out]; rfl, by rw [← HF.out]; exact OwnI.nil_, hbw2⟩
            · have hst : step out ⟨0, N, D⟩ = (0, out ++ again out D N) := by unfold step; rw [if_neg (by simpa using hS), if_neg (by rw [hHm.out]; exact hcap), if_neg h0, if_neg (by show ¬ (out.length : Int) < (D : Int); omega)]; rfl
              have hnx : expand (out ++ again out D N) (l.drop (k + 1)) = expand [] l := by rw [← HEX.out, hst]; rfl
              have HF := Lib.hid hnx
              have hfE : (m < D) = False := eq_false (by omega)
              have HFI : Hid (D ≤ m) := by show _ ≤ _; omega
              clear hnx hst hS hcap hm hfar
              go_wp2_with fail
              refine (rsound_any 0 _ _ _).mono ?_
              rintro e w2 ⟨rfl, hb2⟩
              rw [hs]
              have hbw2 := hb.trans (hb2.mono hb.size)
              have e1 := (hbw2.cell hab (p := ⟨(ad.add (k * 3)).block, (ad.add (k * 3)).off + 1, none⟩)).trans HA1.out
              have e2 := (hbw2.cell hab (p := ⟨(ad.add (k * 3)).block, (ad.add (k * 3)).off + 2, none⟩)).trans HA2.out
              have ho2 := ho.keeps hb2
              go_wp2_with fail
              go_loopw [4, 6] (RexpIn w out D N) (fun _ j _ => N - (intOf j).toNat)
              case atStart => exact ⟨0, A1, m, d, Nat.zero_le _, rfl, rfl, by rw [again_zero, List.append_nil]; exact ho2, hbw2⟩
              case round =>
                obtain ⟨j, A5, M, d5, hj, rfl, rfl, ho5, hb5⟩ := hrel
                have e1 := (hb5.cell hab (p := ⟨(ad.add (k * 3)).block, (ad.add (k * 3)).off + 1, none⟩)).trans HA1.out
                have e2 := (hb5.cell hab (p := ⟨(ad.add (k * 3)).block, (ad.add (k * 3)).off + 2, none⟩)).trans HA2.out
                have hM : M = m + j := by have := ho5.1; rw [List.length_append, again_length, ← HMM.out] at this; exact this
                by_cases hjN : j < N
                · have hj0 : (0 : Int) ≤ j ∧ (j : Int) < N := by omega
                  obtain ⟨P, hP⟩ : ∃ P : Nat, M - D = P := ⟨_, rfl⟩
                  have hDM : D ≤ M := by have := HFI.out; omega
                  have hPI : (M : Int) - (D : Int) = (P : Int) := by omega
                  have hPb : (0 : Int) ≤ P ∧ (P : Int) < (M : Int) := by omega
                  have hMb : (M : Int) ≤ 16777216 + 258 := by omega
                  obtain ⟨g5, rfl⟩ := ho5.2.addr (by omega)
                  have c5 := ho5.2.cell (i := P) (by omega)
                  have hag := again_succ out D j (by omega) (by rw [← HMM.out]; exact HFI.out)
                  rw [← HMM.out, ← hM, hP] at hag
                  obtain ⟨v, hv⟩ : ∃ v : Int, ix (out ++ again out D j) P = v := ⟨_, rfl⟩
                  rw [hv] at c5 hag
                  have HAG := Lib.hid hag
                  have ho6 := ho5.alloc (.cells #[.int .u8 v] 5)
                  have hb6 := hb5.alloc hb5.size (.cells #[.int .u8 v] 5)
                  have hMN : M + 1 ≤ 1000000000000 := by have := HC.out; omega
                  have HMN := Lib.hid hMN
                  have HM := Lib.hid hM
                  clear hag hv hP hM hMN
                  go_wp2_with (at_builtin; (refine wpList_app .u8 w.heap.size 5 i0 1 rfl (.tmp 72) (.tmp 84) _ rfl Try.underlying36 Hi.out Hz0.out Hz1.out Hz2.out rfl ho6 rfl (RdI.lit .u8 wr [v] 5) HMN.out (by omega) (by have := hb6.size; exact this) ?_)
                               intro A7 d7 w7 hown7 hg7 hat7)
                  go_roundw
                  case rel =>
                    exact ⟨j + 1, A7, M + 1, d7, by omega, by go_num, rfl, by rw [HAG.out, ← List.append_assoc]; exact hown7, hb6.grown hg7 hb6.size (fun q hq => (ho5.2.lt hq).1)⟩
                  case measure => simp [intOf]; omega
                · obtain rfl : N = j := by omega
                  go_wp2
                  go_roundw
                  case rel =>
                    exact ⟨k + 1, _, A5, M, d5, by omega, by go_num, rfl, ho5, hb5, HF.out, by have := HC.out; have := HMM.out; rw [List.length_append, again_length]; omega⟩
                  case measure => simp [intOf]; omega
      · have hs : soundB L N D = false := by rw [soundB_iff]; simpa using hS
        have hst : step out ⟨L, N, D⟩ = (1, []) := by unfold step; rw [if_pos hS]
        have hfin : (1, []) = expand [] l := by rw [← HEX.out, hst]; rfl
        have HF := Lib.hid hfin
        clear hfin hst hS
        go_wp2_with fail
        refine (rsound_any L N D _).mono ?_
        rintro e w2 ⟨rfl, hb2⟩
        rw [hs]
        go_wp2
        go_ret2
        exact ⟨none, 0, 0, by rw [← HF.out]; rfl, by rw [← HF.out]; exact OwnI.nil_, hb.trans (hb2.mono hb.size)⟩
    · obtain rfl : n = k := by omega
      rw [hr.1, List.drop_length] at hex
      have HF := Lib.hid hex
      clear hex
      go_wp2
      go_ret2
      exact ⟨A1, m, d, by rw [← HF.out]; rfl, by rw [← HF.out]; exact ho, hb⟩
end Go.Proofs.Ytckhkkjdibcclaa

/-
  Lists of tokens in memory: append (see TokO), with the reference's Expand.
-/

/-
  The walk of the reference's SameTokens.
-/
namespace Go.Proofs.Ytckhkkjdibcclaa
open Go.RowKit
set_option linter.unusedVariables false

set_option maxHeartbeats 1600000 in
theorem sameT_any (w : World) (B C n c m d : Nat) (A A' : Option Addr) (l b : List Tok) (hl : RdT w B A n l) (hb : RdT w C A' m b) (hn : (n : Int) ≤ 1000000000) (he : l = b) :
    Calls Try.prog 23 #[.slice A n c, .slice A' m d] w fun e w' => e = .returned (.bool true) ∧ ∃ q, w' = w.drewN q := by
  have hnm : n = m := by rw [hl.1, hb.1, he]
  subst hnm
  subst he
  go_enter Try.func23, Try.ntmps23
  go_wp2
  go_loopw [5] (fun i wr => ∃ k q : Nat, k ≤ n ∧ i = .int .i64 k ∧ wr = w.drewN q) (fun i _ => n - (intOf i).toNat)
  case atStart => exact ⟨0, 0, Nat.zero_le _, rfl, rfl⟩
  case round =>
    obtain ⟨k, q, hk, rfl, rfl⟩ := hrel
    by_cases hlt : k < n
    · obtain ⟨ad, rfl, _, hc⟩ := hl.2 (by omega)
      obtain ⟨ad2, rfl, _, hc2⟩ := hb.2 (by omega)
      obtain ⟨a0, a1, a2⟩ := hc k hlt
      obtain ⟨b0, b1, b2⟩ := hc2 k hlt
      have hk0 : (0 : Int) ≤ k ∧ (k : Int) < n := by omega
      rw [addr_next _ _ _ (by omega)] at a1 a2 b1 b2
      obtain ⟨⟨L, N, D⟩, ht⟩ : ∃ t : Tok, tokAt l k = t := ⟨_, rfl⟩
      rw [ht] at a0 a1 a2 b0 b1 b2
      dsimp only at a0 a1 a2 b0 b1 b2
      clear ht hc hc2
      go_wp2
      go_quiet (fail)
      go_wp2
      go_roundw
      case rel => exact ⟨k + 1, _, by omega, by go_num, rfl⟩
      case measure => simp [intOf]; omega
    · obtain rfl : n = k := by omega
      go_wp2
      go_ret
      exact ⟨rfl, _, rfl⟩
end Go.Proofs.Ytckhkkjdibcclaa
