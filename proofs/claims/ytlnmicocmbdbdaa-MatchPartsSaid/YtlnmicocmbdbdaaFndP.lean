/-
  Plain law: the finder of what stood there already, as a machine over lists: what it keeps, its next token, its tokens.
-/
import Derived.Test.YtlnmicocmbdbdaaChg
import Derived.Test.YtlnmicocmbdbdaaExpP
namespace Go.Proofs.Ytlnmicocmbdbdaa
open Go Go.RowKit
set_option linter.unusedVariables false

structure Eff where
  chain : Nat
  nice : Nat
  lazy : Bool
/-- a level's effort -/
def effOf (level : Int) : Eff :=
  if level ≤ 0 then ⟨0, 0, false⟩ else if level = 1 then ⟨4, 8, false⟩ else if level = 2 then ⟨8, 16, false⟩ else if level = 3 then ⟨16, 32, false⟩
  else if level = 4 then ⟨16, 16, true⟩ else if level = 5 then ⟨24, 32, true⟩ else if level = 6 then ⟨32, 128, true⟩ else if level = 7 then ⟨64, 128, true⟩
  else if level = 8 then ⟨128, 258, true⟩ else ⟨256, 258, true⟩
theorem effOf_bd (level : Int) : (effOf level).chain ≤ 256 ∧ (effOf level).nice ≤ 258 := by
  unfold effOf
  repeat' split
  all_goals exact ⟨by decide, by decide⟩
theorem effOf_zero (level : Int) : (effOf level).chain = 0 ↔ level ≤ 0 := by
  unfold effOf
  by_cases h : level ≤ 0
  · rw [if_pos h]; simp [h]
  · rw [if_neg h]
    constructor
    · intro h2
      exfalso
      revert h2
      repeat' split
      all_goals (intro h2; exact absurd h2 (by decide))
    · intro h2; exact absurd h2 h

/-- what the finder keeps: all bytes, of each place the one ahead, the first place that is kept, the next place, the places by their beginnings -/
structure FSt where
  D : List Int
  P : List Int
  base : Nat
  at_ : Nat
  head : Int → Option Int

/-- three bytes' number -/
def hs3 (a b c : Int) : Int := (a * 65536 + b * 256 + c) * 2654435761 % 4294967296 / 131072
theorem hs3_bd (a b c : Int) : 0 ≤ hs3 a b c ∧ hs3 a b c < 32768 := by unfold hs3; omega
def hashAt (D : List Int) (p : Nat) : Int := hs3 (ix D p) (ix D (p + 1)) (ix D (p + 2))

/-- from n on, how many bytes are alike -/
def smF (D : List Int) (a b : Nat) : Nat → Nat → Nat
  | 0, n => n
  | f + 1, n => if ix D (a + n) = ix D (b + n) then smF D a b f (n + 1) else n
def sameN (D : List Int) (a b : Nat) : Nat := smF D a b (min 258 (D.length - b)) 0
theorem smF_le (D : List Int) (a b f n : Nat) : n ≤ smF D a b f n ∧ smF D a b f n ≤ n + f := by
  induction f generalizing n with
  | zero => exact ⟨Nat.le_refl _, by simp [smF]⟩
  | succ f ih =>
    unfold smF
    split
    · have := ih (n + 1); omega
    · omega
theorem smF_alike (D : List Int) (a b f n : Nat) (h : ∀ i, i < n → ix D (a + i) = ix D (b + i)) : ∀ i, i < smF D a b f n → ix D (a + i) = ix D (b + i) := by
  induction f generalizing n with
  | zero => exact h
  | succ f ih =>
    unfold smF
    split
    · rename_i e
      exact ih (n + 1) fun i hi => by
        by_cases h2 : i = n
        · subst h2; exact e
        · exact h i (by omega)
    · exact h
theorem sameN_bd (D : List Int) (a b : Nat) : sameN D a b ≤ 258 ∧ sameN D a b ≤ D.length - b := by
  have := (smF_le D a b (min 258 (D.length - b)) 0).2
  unfold sameN; omega
theorem sameN_alike (D : List Int) (a b : Nat) : ∀ i, i < sameN D a b → ix D (a + i) = ix D (b + i) := smF_alike D a b _ 0 fun i hi => by omega

/-- the chain of places, so many tries -/
def bestF (D P : List Int) (base p nice : Nat) : Nat → Int → Nat × Nat → Nat × Nat
  | 0, _, t => t
  | tries + 1, k, t =>
    if (base : Int) ≤ k ∧ (p : Int) - 32768 ≤ k then
      if 3 ≤ sameN D k.toNat p ∧ t.1 < sameN D k.toNat p then
        if nice ≤ sameN D k.toNat p then (sameN D k.toNat p, p - k.toNat) else bestF D P base p nice tries (ix P k.toNat) (sameN D k.toNat p, p - k.toNat)
      else bestF D P base p nice tries (ix P k.toNat) t
    else t
def bestOf (e : Eff) (st : FSt) (p : Nat) : Nat × Nat :=
  if e.chain = 0 ∨ st.D.length < p + 3 then (0, 0)
  else match st.head (hashAt st.D p) with
    | none => (0, 0)
    | some k => bestF st.D st.P st.base p e.nice e.chain k (0, 0)
theorem bestOf_zero {e : Eff} {st : FSt} {p : Nat} (h : e.chain = 0 ∨ st.D.length < p + 3) : bestOf e st p = (0, 0) := by unfold bestOf; rw [if_pos h]
theorem bestOf_none {e : Eff} {st : FSt} {p : Nat} (h : st.head (hashAt st.D p) = none) : bestOf e st p = (0, 0) := by
  unfold bestOf
  split
  · rfl
  · rw [h]
theorem bestOf_some {e : Eff} {st : FSt} {p : Nat} {k : Int} (h1 : e.chain ≠ 0) (h2 : p + 3 ≤ st.D.length) (h : st.head (hashAt st.D p) = some k) : bestOf e st p = bestF st.D st.P st.base p e.nice e.chain k (0, 0) := by
  unfold bestOf
  rw [if_neg (by omega), h]
/-- what was known at a beginning; none: -1 -/
def was (st : FSt) (h : Int) : Int := (st.head h).getD (-1)
def enterF (e : Eff) (st : FSt) (p : Nat) : FSt :=
  if e.chain = 0 ∨ st.D.length < p + 3 then st
  else { st with P := st.P.set p (was st (hashAt st.D p)), head := fun x => if x = hashAt st.D p then some (p : Int) else st.head x }
def moved (st : FSt) : FSt := { st with at_ := st.at_ + 1 }
def passF (e : Eff) : Nat → FSt → FSt
  | 0, st => st
  | n + 1, st => passF e n (moved (enterF e st st.at_))
def litAt (st : FSt) : Tok := ⟨ix st.D st.at_, 0, 0⟩
def nextF (e : Eff) (st : FSt) : Tok × FSt :=
  if (bestOf e st st.at_).1 = 0 then (litAt st, passF e 1 st)
  else if e.lazy = true ∧ (bestOf e st st.at_).1 < e.nice ∧ st.at_ + 1 < st.D.length then
    if (bestOf e st st.at_).1 < (bestOf e (enterF e st st.at_) (st.at_ + 1)).1 then (litAt st, moved (enterF e st st.at_))
    else (⟨0, (bestOf e st st.at_).1, (bestOf e st st.at_).2⟩, passF e ((bestOf e st st.at_).1 - 1) (moved (enterF e st st.at_)))
  else (⟨0, (bestOf e st st.at_).1, (bestOf e st st.at_).2⟩, passF e (bestOf e st st.at_).1 st)
/-- l are the tokens from st to st', while more than left bytes wait -/
inductive Run (e : Eff) (left : Nat) : FSt → List Tok → FSt → Prop
  | nil (st : FSt) : Run e left st [] st
  | snoc {st st1 : FSt} {l : List Tok} : Run e left st l st1 → left < st1.D.length - st1.at_ → Run e left st (l ++ [(nextF e st1).1]) (nextF e st1).2
def writeF (st : FSt) (b : List Int) : FSt :=
  { D := st.D ++ b, P := st.P ++ List.replicate b.length 0, at_ := st.at_, head := st.head,
    base := if 131072 < (st.D ++ b).length - st.base ∧ 32768 < st.at_ - st.base then st.at_ - 32768 else st.base }
def newF : FSt := ⟨[], [], 0, 0, fun _ => none⟩

/-- what always holds; places that are known lie below b -/
structure FSt.Ok (st : FSt) (b : Nat) : Prop where
  len : st.P.length = st.D.length
  lo : st.base ≤ st.at_
  hi : st.at_ ≤ st.D.length
  bl : b ≤ st.D.length
  prev : ∀ q, -1 ≤ ix st.P q ∧ ix st.P q ≤ q
  hd : ∀ h k, st.head h = some k → 0 ≤ k ∧ k < (b : Int)
theorem ix_set (l : List Int) (p q : Nat) (v : Int) (hp : p < l.length) : ix (l.set p v) q = if q = p then v else ix l q := by
  unfold ix
  simp only [List.getD_eq_getElem?_getD, List.getElem?_set]
  by_cases h : q = p
  · subst h; rw [if_pos rfl, if_pos rfl, if_pos hp]; rfl
  · rw [if_neg h, if_neg (fun e => h e.symm)]
theorem ix_out (l : List Int) {q : Nat} (h : l.length ≤ q) : ix l q = 0 := by
  unfold ix; rw [List.getD_eq_getElem?_getD, List.getElem?_eq_none h]; rfl
theorem ix_rep (n q : Nat) : ix (List.replicate n 0) q = 0 := by
  by_cases h : q < n
  · simp [ix, h]
  · exact ix_out _ (by simp; omega)
theorem Ok.new : FSt.Ok newF 0 := ⟨rfl, Nat.le_refl _, Nat.le_refl _, Nat.le_refl _, fun q => by simp [newF, ix], fun h k hk => by simp [newF] at hk⟩
theorem FSt.Ok.write {st : FSt} {b : Nat} (h : st.Ok b) (x : List Int) : (writeF st x).Ok b := by
  refine ⟨?_, ?_, ?_, ?_, fun q => ?_, h.hd⟩
  · simp [writeF, h.len]
  · have := h.lo; unfold writeF; dsimp only; split <;> omega
  · have := h.hi; unfold writeF; simp; omega
  · have := h.bl; unfold writeF; simp; omega
  · unfold writeF; dsimp only
    rw [ix_append]
    split
    · exact h.prev q
    · rw [ix_rep]; omega
theorem was_bd {st : FSt} {b : Nat} (h : st.Ok b) (x : Int) : -1 ≤ was st x ∧ was st x < (b : Int) := by
  unfold was
  cases e : st.head x with
  | none => simp; omega
  | some k => have := h.hd x k e; simp; omega
theorem FSt.Ok.enter {e : Eff} {st : FSt} {p : Nat} (h : st.Ok p) (hp : p < st.D.length) : (enterF e st p).Ok (p + 1) := by
  unfold enterF
  split
  · exact ⟨h.len, h.lo, h.hi, hp, h.prev, fun x k hk => by have := h.hd x k hk; omega⟩
  · rename_i hc
    refine ⟨by simp [h.len], h.lo, h.hi, hp, fun q => ?_, fun x k hk => ?_⟩
    · dsimp only
      rw [ix_set _ _ _ _ (by rw [h.len]; exact hp)]
      split
      · have := was_bd h (hashAt st.D p); omega
      · exact h.prev q
    · dsimp only at hk
      split at hk
      · injection hk with hk; omega
      · have := h.hd x k hk; omega
theorem enter_D (e : Eff) (st : FSt) (p : Nat) : (enterF e st p).D = st.D ∧ (enterF e st p).at_ = st.at_ ∧ (enterF e st p).base = st.base := by
  unfold enterF; split <;> exact ⟨rfl, rfl, rfl⟩
theorem FSt.Ok.moved {st : FSt} (h : st.Ok (st.at_ + 1)) : (moved st).Ok (Go.Proofs.Ytlnmicocmbdbdaa.moved st).at_ :=
  ⟨h.len, Nat.le_succ_of_le h.lo, h.bl, h.bl, h.prev, h.hd⟩
theorem pass_ok {e : Eff} {st : FSt} {n : Nat} (h : st.Ok st.at_) (hn : st.at_ + n ≤ st.D.length) : (passF e n st).Ok (st.at_ + n) ∧ (passF e n st).D = st.D ∧ (passF e n st).at_ = st.at_ + n ∧ (passF e n st).base = st.base := by
  induction n generalizing st with
  | zero => exact ⟨h, rfl, rfl, rfl⟩
  | succ n ih =>
    have h1 := h.enter (e := e) (p := st.at_) (by omega)
    obtain ⟨e1, e2, e3⟩ := enter_D e st st.at_
    have h2 : (enterF e st st.at_).Ok ((enterF e st st.at_).at_ + 1) := by rw [e2]; exact h1
    have h3 := h2.moved
    have e4 : (moved (enterF e st st.at_)).at_ = st.at_ + 1 := by show (enterF e st st.at_).at_ + 1 = _; rw [e2]
    have e5 : (moved (enterF e st st.at_)).D = st.D := e1
    obtain ⟨r1, r2, r3, r4⟩ := ih (st := moved (enterF e st st.at_)) h3 (by rw [e4, e5]; omega)
    rw [e4] at r1 r3
    refine ⟨by rw [show st.at_ + (n + 1) = st.at_ + 1 + n by omega]; exact r1, by rw [show passF e (n + 1) st = passF e n (moved (enterF e st st.at_)) from rfl, r2, e5], by rw [show passF e (n + 1) st = passF e n (moved (enterF e st st.at_)) from rfl, r3]; omega, by rw [show passF e (n + 1) st = passF e n (moved (enterF e st st.at_)) from rfl, r4]; exact e3⟩
/-- what is found stood there -/
def Good (D : List Int) (p : Nat) (t : Nat × Nat) : Prop := t.1 = 0 ∧ t.2 = 0 ∨ (3 ≤ t.1 ∧ t.1 ≤ 258 ∧ p + t.1 ≤ D.length ∧ 1 ≤ t.2 ∧ t.2 ≤ 32768 ∧ t.2 ≤ p ∧ ∀ i, i < t.1 → ix D (p - t.2 + i) = ix D (p + i))
theorem bestF_good {D P : List Int} {base p nice : Nat} (hp : p ≤ D.length) (hP : ∀ q, -1 ≤ ix P q ∧ ix P q ≤ q) (n : Nat) (k : Int) (t : Nat × Nat) (hk : k < p) (ht : Good D p t) : Good D p (bestF D P base p nice n k t) := by
  induction n generalizing k t with
  | zero => exact ht
  | succ n ih =>
    unfold bestF
    split
    · rename_i hc
      obtain ⟨K, rfl⟩ := Int.eq_ofNat_of_zero_le (show 0 ≤ k by omega)
      have hq := hP K
      have hg : 3 ≤ sameN D K p ∧ t.1 < sameN D K p → Good D p (sameN D K p, p - K) := fun h => by
        have hb := sameN_bd D K p
        refine .inr ⟨h.1, hb.1, by simp only; omega, by simp only; omega, by simp only; omega, by simp only; omega, fun i hi => ?_⟩
        have := sameN_alike D K p i hi
        rw [show p - (p - K) = K by omega]
        exact this
      simp only [Int.toNat_natCast]
      split
      · rename_i hs
        split
        · exact hg hs
        · exact ih _ _ (by omega) (hg hs)
      · exact ih _ _ (by omega) ht
    · exact ht
theorem best_good {e : Eff} {st : FSt} {p : Nat} (h : st.Ok p) : Good st.D p (bestOf e st p) := by
  unfold bestOf
  split
  · exact .inl ⟨rfl, rfl⟩
  · split
    · exact .inl ⟨rfl, rfl⟩
    · rename_i k hk
      exact bestF_good h.bl h.prev _ _ _ (h.hd _ _ hk).2 (.inl ⟨rfl, rfl⟩)
theorem best_some {e : Eff} {st : FSt} {p : Nat} (h : (bestOf e st p).1 ≠ 0) : e.chain ≠ 0 ∧ p + 3 ≤ st.D.length := by
  unfold bestOf at h
  split at h
  · simp at h
  · omega
/-- the next token: its bytes are the next ones -/
theorem next_ok {e : Eff} {st : FSt} (h : st.Ok st.at_) (hlt : st.at_ < st.D.length) : ∃ N, 1 ≤ N ∧ N ≤ 258 ∧ st.at_ + N ≤ st.D.length ∧ (nextF e st).2.Ok (st.at_ + N) ∧ (nextF e st).2.D = st.D ∧ (nextF e st).2.at_ = st.at_ + N ∧ (nextF e st).2.base = st.base ∧
    (((nextF e st).1 = litAt st ∧ N = 1) ∨ ∃ dist : Nat, (nextF e st).1 = ⟨0, N, dist⟩ ∧ Good st.D st.at_ (N, dist) ∧ e.chain ≠ 0 ∧ 3 ≤ N) := by
  have hg := best_good (e := e) h
  unfold nextF
  split
  · obtain ⟨r1, r2, r3, r4⟩ := pass_ok (e := e) (n := 1) h (by omega)
    exact ⟨1, Nat.le_refl _, by omega, by omega, r1, r2, r3, r4, .inl ⟨rfl, rfl⟩⟩
  · rename_i h0
    have hsome := best_some h0
    obtain ⟨B, hB⟩ : ∃ B, bestOf e st st.at_ = B := ⟨_, rfl⟩
    rw [hB] at hg h0 ⊢
    obtain ⟨N, dist⟩ := B
    rcases hg with ⟨hz, _⟩ | ⟨g1, g2, g3, g4⟩
    · exact absurd hz h0
    dsimp only at g1 g2 g3 g4 ⊢
    have h1 := h.enter (e := e) (p := st.at_) hlt
    obtain ⟨e1, e2, e3⟩ := enter_D e st st.at_
    have h2 : (enterF e st st.at_).Ok ((enterF e st st.at_).at_ + 1) := by rw [e2]; exact h1
    have h3 := h2.moved
    have e4 : (moved (enterF e st st.at_)).at_ = st.at_ + 1 := by show (enterF e st st.at_).at_ + 1 = _; rw [e2]
    have e5 : (moved (enterF e st st.at_)).D = st.D := e1
    split
    · split
      · refine ⟨1, Nat.le_refl _, by omega, by omega, ?_, e5, e4, e3, .inl ⟨rfl, rfl⟩⟩
        rw [e4] at h3; exact h3
      · obtain ⟨r1, r2, r3, r4⟩ := pass_ok (e := e) (n := N - 1) h3 (by rw [e4, e5]; omega)
        rw [e4] at r1 r3
        rw [show st.at_ + 1 + (N - 1) = st.at_ + N by omega] at r1 r3
        exact ⟨N, by omega, by omega, g3, r1, by rw [r2, e5], r3, by rw [r4]; exact e3, .inr ⟨dist, rfl, .inr ⟨g1, g2, g3, g4⟩, hsome.1, g1⟩⟩
    · obtain ⟨r1, r2, r3, r4⟩ := pass_ok (e := e) (n := N) h g3
      exact ⟨N, by omega, by omega, g3, r1, r2, r3, r4, .inr ⟨dist, rfl, .inr ⟨g1, g2, g3, g4⟩, hsome.1, g1⟩⟩
theorem run_ok {e : Eff} {left : Nat} {st st' : FSt} {l : List Tok} (h : Run e left st l st') (hok : st.Ok st.at_) : st'.Ok st'.at_ ∧ st'.D = st.D ∧ st.at_ + l.length ≤ st'.at_ ∧ st'.base = st.base := by
  induction h with
  | nil => exact ⟨hok, rfl, Nat.le_refl _, rfl⟩
  | snoc h1 h2 ih =>
    obtain ⟨i1, i2, i3, i4⟩ := ih
    obtain ⟨N, n1, -, -, n4, n5, n6, n7, -⟩ := next_ok (e := e) i1 (by omega)
    refine ⟨by rw [n6]; exact n4, by rw [n5, i2], by rw [n6]; simp; omega, by rw [n7, i4]⟩
end Go.Proofs.Ytlnmicocmbdbdaa
