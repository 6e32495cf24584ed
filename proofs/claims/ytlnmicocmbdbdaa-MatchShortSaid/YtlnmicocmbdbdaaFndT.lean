/-
  Plain law: a byte that comes very often is told by few tokens.
-/
import Derived.Test.YtlnmicocmbdbdaaFndR
namespace Go.Proofs.Ytlnmicocmbdbdaa
open Go Go.RowKit
set_option linter.unusedVariables false

theorem ix_repc (n : Nat) (c : Int) {q : Nat} (h : q < n) : ix (List.replicate n c) q = c := by simp [ix, h]
theorem bestF_top {D P : List Int} {base p nice : Nat} {t : Nat × Nat} (h : ∀ k, sameN D k p ≤ t.1) (n : Nat) (k : Int) : bestF D P base p nice n k t = t := by
  induction n generalizing k with
  | zero => rfl
  | succ n ih =>
    unfold bestF
    split
    · rw [if_neg (by have := h k.toNat; omega)]
      exact ih _
    · rfl
theorem smF_all {D : List Int} {a b f n : Nat} (h : ∀ i, i < f → ix D (a + (n + i)) = ix D (b + (n + i))) : smF D a b f n = n + f := by
  induction f generalizing n with
  | zero => rfl
  | succ f ih =>
    unfold smF
    rw [if_pos (by have := h 0 (by omega); simpa using this), ih (fun i hi => by have := h (i + 1) (by omega); rw [show n + 1 + i = n + (i + 1) by omega]; exact this)]
    omega
/-- the state among n equal bytes -/
structure InvC (n : Nat) (c : Int) (st : FSt) : Prop where
  D : st.D = List.replicate n c
  base : st.base = 0
  ok : st.Ok st.at_
  hd : 1 ≤ st.at_ → st.at_ + 2 ≤ n → st.head (hs3 c c c) = some ((st.at_ - 1 : Nat) : Int)
section
variable {n : Nat} {c : Int} {st : FSt} {e : Eff}
theorem InvC.len (h : InvC n c st) : st.D.length = n := by rw [h.D, List.length_replicate]
theorem InvC.hash (h : InvC n c st) {p : Nat} (hp : p + 3 ≤ n) : hashAt st.D p = hs3 c c c := by
  unfold hashAt
  rw [h.D, ix_repc _ _ (by omega), ix_repc _ _ (by omega), ix_repc _ _ (by omega)]
theorem InvC.same (h : InvC n c st) {k p : Nat} (hk : k ≤ p) (hp : p ≤ n) : sameN st.D k p = min 258 (n - p) := by
  unfold sameN
  rw [h.len, smF_all, Nat.zero_add]
  intro i hi
  rw [h.D, ix_repc _ _ (by omega), ix_repc _ _ (by omega)]
theorem InvC.step (h : InvC n c st) (hc : e.chain ≠ 0) (hlt : st.at_ < n) : InvC n c (moved (enterF e st st.at_)) := by
  have hl := h.len
  obtain ⟨d1, d2, d3⟩ := enter_D e st st.at_
  have hok := h.ok.enter (e := e) (p := st.at_) (by omega)
  have hok2 : (enterF e st st.at_).Ok ((enterF e st st.at_).at_ + 1) := by rw [d2]; exact hok
  refine ⟨by show (enterF e st st.at_).D = _; rw [d1, h.D], by show (enterF e st st.at_).base = 0; rw [d3, h.base], hok2.moved, fun h1 h2 => ?_⟩
  have ha : (moved (enterF e st st.at_)).at_ = st.at_ + 1 := by show (enterF e st st.at_).at_ + 1 = _; rw [d2]
  rw [ha] at h2 ⊢
  show (enterF e st st.at_).head _ = _
  unfold enterF
  rw [if_neg (by omega)]
  dsimp only
  rw [if_pos (h.hash (by omega)).symm, Nat.add_sub_cancel]
theorem InvC.pass (h : InvC n c st) (hc : e.chain ≠ 0) (m : Nat) (hm : st.at_ + m ≤ n) : InvC n c (passF e m st) ∧ (passF e m st).at_ = st.at_ + m := by
  induction m generalizing st with
  | zero => exact ⟨h, rfl⟩
  | succ m ih =>
    obtain ⟨d1, d2, d3⟩ := enter_D e st st.at_
    have ha : (moved (enterF e st st.at_)).at_ = st.at_ + 1 := by show (enterF e st st.at_).at_ + 1 = _; rw [d2]
    obtain ⟨i1, i2⟩ := ih (h.step hc (by omega)) (by rw [ha]; omega)
    refine ⟨i1, ?_⟩
    show (passF e m (moved (enterF e st st.at_))).at_ = _
    rw [i2, ha]; omega
theorem InvC.best (h : InvC n c st) (hc : e.chain ≠ 0) (h1 : 1 ≤ st.at_) (hr : st.at_ + 3 ≤ n) : bestOf e st st.at_ = (min 258 (n - st.at_), 1) := by
  have hl := h.len
  have hh := h.hd h1 (by omega)
  rw [bestOf_some hc (by omega) (by rw [h.hash hr]; exact hh), h.base]
  obtain ⟨m, hm⟩ : ∃ m, e.chain = m + 1 := ⟨e.chain - 1, by omega⟩
  rw [hm, bestF, if_pos (by omega), Int.toNat_natCast, h.same (by omega) (by omega), if_pos (by simp only; omega)]
  have e1 : st.at_ - (st.at_ - 1) = 1 := by omega
  rw [e1]
  split
  · rfl
  · exact bestF_top (fun k => by have := sameN_bd st.D k st.at_; rw [hl] at this; simp only; omega) _ _
theorem InvC.next (h : InvC n c st) (hc : e.chain ≠ 0) (hn : e.nice ≤ 258) (h1 : 1 ≤ st.at_) (hr : st.at_ + 3 ≤ n) : InvC n c (nextF e st).2 ∧ (nextF e st).2.at_ = st.at_ + min 258 (n - st.at_) := by
  have hl := h.len
  have hb := h.best hc h1 hr
  unfold nextF
  rw [hb]
  have h0 : ¬ min 258 (n - st.at_) = 0 := by omega
  simp only [if_neg h0]
  by_cases hz : e.lazy = true ∧ min 258 (n - st.at_) < e.nice ∧ st.at_ + 1 < st.D.length
  · rw [if_pos hz]
    obtain ⟨-, hz2, hz3⟩ := hz
    have hg := best_good (e := e) (st := enterF e st st.at_) (p := st.at_ + 1) (h.ok.enter (by omega))
    obtain ⟨d1, d2, d3⟩ := enter_D e st st.at_
    rw [if_neg (by
      rcases hg with ⟨h5, -⟩ | ⟨-, -, h5, -⟩
      · omega
      · rw [d1, hl] at h5; omega)]
    have ha : (moved (enterF e st st.at_)).at_ = st.at_ + 1 := by show (enterF e st st.at_).at_ + 1 = _; rw [d2]
    obtain ⟨r1, r2⟩ := (h.step hc (by omega)).pass hc (min 258 (n - st.at_) - 1) (by rw [ha]; omega)
    exact ⟨r1, by rw [r2, ha]; omega⟩
  · rw [if_neg hz]
    exact h.pass hc _ (by omega)
theorem run_few (h : InvC n c st) (hc : e.chain ≠ 0) (hn : e.nice ≤ 258) (h1 : 1 ≤ st.at_) {l : List Tok} {st' : FSt} (hr : Run e 0 st l st') : l.length ≤ (n - st.at_) / 258 + 2 := by
  induction l generalizing st with
  | nil => simp
  | cons t l ih =>
    rcases hr.inv with ⟨h5, -⟩ | ⟨l2, h6, h7, h8⟩
    · cases h5
    · injection h7 with h9 h10
      subst h10
      have hl := h.len
      by_cases h3 : st.at_ + 3 ≤ n
      · obtain ⟨i1, i2⟩ := h.next hc hn h1 h3
        by_cases hb : 258 ≤ n - st.at_
        · have := ih i1 (by rw [i2]; omega) h8
          rw [i2] at this
          rw [List.length_cons]
          omega
        · have h11 : (nextF e st).2.at_ = n := by rw [i2]; omega
          rcases h8.inv with ⟨rfl, -⟩ | ⟨_, h12, _, _⟩
          · simp
          · rw [i1.len, h11] at h12; omega
      · obtain ⟨r1, r2, r3, -⟩ := run_ok hr h.ok
        have := r1.hi
        rw [r2, hl] at this
        omega
end
theorem few_all {e : Eff} {n : Nat} {c : Int} (hc : e.chain ≠ 0) (hn : e.nice ≤ 258) (h517 : 517 ≤ n) (hn2 : n ≤ 131072) {l : List Tok} {st' : FSt} (hr : Run e 0 (writeF newF (List.replicate n c)) l st') : 10 * l.length < n := by
  have hok : (writeF newF (List.replicate n c)).Ok 0 := Ok.new.write _
  have h0 : InvC n c (writeF newF (List.replicate n c)) := ⟨by show [] ++ _ = _; rfl, by show (if _ then 0 - 32768 else 0) = 0; split <;> rfl, hok, fun h => by simp [writeF, newF] at h⟩
  rcases hr.inv with ⟨rfl, -⟩ | ⟨l2, h6, rfl, h8⟩
  · simp; omega
  · have hb : bestOf e (writeF newF (List.replicate n c)) (writeF newF (List.replicate n c)).at_ = (0, 0) := bestOf_none rfl
    have hnx : nextF e (writeF newF (List.replicate n c)) = (litAt (writeF newF (List.replicate n c)), passF e 1 (writeF newF (List.replicate n c))) := by unfold nextF; rw [hb, if_pos rfl]
    rw [hnx] at h8
    obtain ⟨i1, i2⟩ := h0.pass hc 1 (by show 0 + 1 ≤ n; omega)
    have h9 := run_few i1 hc hn (by rw [i2]; exact Nat.le_add_left _ _) h8
    rw [i2] at h9
    have h10 : (writeF newF (List.replicate n c)).at_ = 0 := rfl
    rw [h10] at h9
    rw [List.length_cons]
    omega
end Go.Proofs.Ytlnmicocmbdbdaa
