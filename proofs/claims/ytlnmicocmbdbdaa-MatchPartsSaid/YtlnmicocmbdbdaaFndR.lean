/-
  Plain law: the finder's runs, from the front; what two bytes come to.
-/
import Derived.Test.YtlnmicocmbdbdaaFndQ
namespace Go.Proofs.Ytlnmicocmbdbdaa
open Go Go.RowKit
set_option linter.unusedVariables false

theorem Run.cons_ {e : Eff} {left : Nat} {st st' : FSt} {l : List Tok} (h : left < st.D.length - st.at_) (hr : Run e left (nextF e st).2 l st') : Run e left st ((nextF e st).1 :: l) st' := by
  induction hr with
  | nil => exact Run.snoc (Run.nil st) h
  | snoc h1 h2 ih => exact Run.snoc (l := (nextF e st).1 :: _) ih h2
theorem Run.inv {e : Eff} {left : Nat} {st st' : FSt} {l : List Tok} (h : Run e left st l st') : (l = [] ∧ st' = st) ∨ ∃ l2, left < st.D.length - st.at_ ∧ l = (nextF e st).1 :: l2 ∧ Run e left (nextF e st).2 l2 st' := by
  induction h with
  | nil => exact .inl ⟨rfl, rfl⟩
  | snoc h1 h2 ih =>
    rcases ih with ⟨rfl, rfl⟩ | ⟨l2, h3, rfl, h5⟩
    · exact .inr ⟨[], h2, rfl, .nil _⟩
    · exact .inr ⟨_, h3, rfl, Run.snoc h5 h2⟩
/-- near the end there are bytes alone -/
theorem next_short {e : Eff} {st : FSt} (h : st.D.length < st.at_ + 3) : nextF e st = (litAt st, moved st) := by
  have h1 : bestOf e st st.at_ = (0, 0) := bestOf_zero (.inr h)
  have h2 : enterF e st st.at_ = st := by unfold enterF; rw [if_pos (.inr h)]
  unfold nextF
  rw [h1, if_pos rfl]
  show (litAt st, moved (enterF e st st.at_)) = _
  rw [h2]
theorem run_aa {e : Eff} {l : List Tok} {st' : FSt} (h : Run e 0 (writeF newF [97, 97]) l st') (hend : st'.at_ = st'.D.length) : l = [⟨97, 0, 0⟩, ⟨97, 0, 0⟩] := by
  rcases h.inv with ⟨rfl, rfl⟩ | ⟨l2, h3, rfl, h5⟩
  · exact absurd hend (by decide)
  · rw [next_short (by decide)] at h5 ⊢
    rcases h5.inv with ⟨rfl, rfl⟩ | ⟨l3, h6, rfl, h7⟩
    · exact absurd hend (by decide)
    · rw [next_short (by decide)] at h7 ⊢
      rcases h7.inv with ⟨rfl, rfl⟩ | ⟨l4, h8, rfl, h9⟩
      · rfl
      · exact absurd h8 (by decide)
/-- at level 0 there are bytes alone -/
theorem run_lits {e : Eff} {left : Nat} {st st' : FSt} {l : List Tok} (h : Run e left st l st') (hok : st.Ok st.at_) (h0 : e.chain = 0) : ∀ t ∈ l, t.len = 0 := by
  induction h with
  | nil => intro t ht; cases ht
  | snoc h1 h2 ih =>
    intro t ht
    rcases List.mem_append.1 ht with h3 | h3
    · exact ih t h3
    · obtain ⟨i1, -, -, -⟩ := run_ok h1 hok
      rw [List.mem_singleton] at h3
      obtain ⟨N, -, -, -, -, -, -, -, h7⟩ := next_ok (e := e) i1 (by omega)
      rcases h7 with ⟨h8, -⟩ | ⟨d, -, -, h9, -⟩
      · rw [h3, h8]; rfl
      · exact absurd h0 h9
end Go.Proofs.Ytlnmicocmbdbdaa
