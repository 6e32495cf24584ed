/-
  Plain law: however the bytes are parted, the finder's tokens are the same.
-/
import Derived.Test.YtlnmicocmbdbdaaFndR
namespace Go.Proofs.Ytlnmicocmbdbdaa
open Go Go.RowKit
set_option linter.unusedVariables false

/-- a keeps the first f bytes of what b keeps; all else is alike -/
structure Sim (a b : FSt) (f : Nat) : Prop where
  D : a.D = b.D.take f
  fl : f ≤ b.D.length
  P : ∀ q, ix a.P q = ix b.P q
  base : a.base = b.base
  at_ : a.at_ = b.at_
  head : a.head = b.head
section
variable {a b : FSt} {f : Nat} {e : Eff}
theorem Sim.len (h : Sim a b f) : a.D.length = f := by rw [h.D, List.length_take, Nat.min_eq_left h.fl]
theorem Sim.ixe (h : Sim a b f) {i : Nat} (hi : i < f) : ix a.D i = ix b.D i := by rw [h.D, ix_take _ hi]
theorem Sim.hash (h : Sim a b f) {p : Nat} (hp : p + 3 ≤ f) : hashAt a.D p = hashAt b.D p := by
  unfold hashAt
  rw [h.ixe (by omega), h.ixe (by omega), h.ixe (by omega)]
theorem smF_sim (h : Sim a b f) {k p : Nat} (hk : k ≤ p) (fu n : Nat) (hf : p + n + fu ≤ f) : smF a.D k p fu n = smF b.D k p fu n := by
  induction fu generalizing n with
  | zero => rfl
  | succ fu ih =>
    unfold smF
    rw [h.ixe (i := k + n) (by omega), h.ixe (i := p + n) (by omega), ih (n + 1) (by omega)]
theorem sameN_sim (h : Sim a b f) {k p : Nat} (hk : k ≤ p) (hp : p + 258 ≤ f) : sameN a.D k p = sameN b.D k p := by
  have := h.fl
  unfold sameN
  rw [h.len, Nat.min_eq_left (by omega), Nat.min_eq_left (by omega)]
  exact smF_sim h hk _ _ (by omega)
theorem bestF_sim (h : Sim a b f) (hP : ∀ q, -1 ≤ ix b.P q ∧ ix b.P q ≤ q) {p base nice : Nat} (hp : p + 258 ≤ f) (n : Nat) (k : Int) (t : Nat × Nat) (hk : k < p) : bestF a.D a.P base p nice n k t = bestF b.D b.P base p nice n k t := by
  induction n generalizing k t with
  | zero => rfl
  | succ n ih =>
    unfold bestF
    by_cases hc : (base : Int) ≤ k ∧ (p : Int) - 32768 ≤ k
    · rw [if_pos hc, if_pos hc]
      have hK := hP k.toNat
      rw [sameN_sim h (k := k.toNat) (by omega) hp, h.P, ih (ix b.P k.toNat) _ (by omega), ih (ix b.P k.toNat) _ (by omega)]
    · rw [if_neg hc, if_neg hc]
theorem bestOf_sim (h : Sim a b f) {p : Nat} (hok : b.Ok p) (hp : p + 258 ≤ f) : bestOf e a p = bestOf e b p := by
  have hl := h.len
  have hfl := h.fl
  by_cases h0 : e.chain = 0
  · rw [bestOf_zero (.inl h0), bestOf_zero (.inl h0)]
  · cases hh : b.head (hashAt b.D p) with
    | none =>
      rw [bestOf_none hh, bestOf_none (by rw [h.hash (by omega), h.head]; exact hh)]
    | some k =>
      rw [bestOf_some h0 (by omega) hh, bestOf_some h0 (by omega) (by rw [h.hash (by omega), h.head]; exact hh), h.base]
      exact bestF_sim h hok.prev hp _ _ _ (hok.hd _ _ hh).2
theorem Sim.enter (h : Sim a b f) {p : Nat} (hla : a.P.length = a.D.length) (hlb : b.P.length = b.D.length) (hp : p + 3 ≤ f) : Sim (enterF e a p) (enterF e b p) f := by
  have hl := h.len
  have hfl := h.fl
  by_cases h0 : e.chain = 0
  · unfold enterF
    rw [if_pos (.inl h0), if_pos (.inl h0)]; exact h
  · unfold enterF
    rw [if_neg (by omega), if_neg (by omega)]
    have hw : was a (hashAt a.D p) = was b (hashAt b.D p) := by unfold was; rw [h.hash hp, h.head]
    refine ⟨h.D, h.fl, fun q => ?_, h.base, h.at_, ?_⟩
    · dsimp only
      rw [ix_set _ _ _ _ (by omega), ix_set _ _ _ _ (by omega), hw, h.P]
    · dsimp only
      rw [h.hash hp, h.head]
theorem Sim.moved (h : Sim a b f) : Sim (moved a) (moved b) f := ⟨h.D, h.fl, h.P, h.base, by show a.at_ + 1 = b.at_ + 1; rw [h.at_], h.head⟩
theorem enter_len (st : FSt) (p : Nat) : (enterF e st p).P.length = st.P.length := by unfold enterF; split <;> simp
theorem Sim.pass (h : Sim a b f) (n : Nat) (hla : a.P.length = a.D.length) (hlb : b.P.length = b.D.length) (hp : a.at_ + n + 2 ≤ f) : Sim (passF e n a) (passF e n b) f := by
  induction n generalizing a b with
  | zero => exact h
  | succ n ih =>
    have h1 := (h.enter (e := e) (p := a.at_) hla hlb (by omega)).moved
    rw [passF, passF, ← h.at_]
    obtain ⟨d1, d2, d3⟩ := enter_D e a a.at_
    obtain ⟨f1, f2, f3⟩ := enter_D e b a.at_
    refine ih h1 ?_ ?_ ?_
    · show (enterF e a a.at_).P.length = (enterF e a a.at_).D.length; rw [enter_len, d1]; exact hla
    · show (enterF e b a.at_).P.length = (enterF e b a.at_).D.length; rw [enter_len, f1]; exact hlb
    · show (enterF e a a.at_).at_ + 1 + n + 2 ≤ f; rw [d2]; omega
theorem next_sim (h : Sim a b f) (ha : a.Ok a.at_) (hb : b.Ok b.at_) (hw : 261 < a.D.length - a.at_) : (nextF e a).1 = (nextF e b).1 ∧ Sim (nextF e a).2 (nextF e b).2 f := by
  have hl := h.len
  have hfl := h.fl
  have hat := h.at_
  have hB : bestOf e a a.at_ = bestOf e b b.at_ := by rw [hat]; exact bestOf_sim h hb (by omega)
  have hlit : litAt a = litAt b := by unfold litAt; rw [hat, h.ixe (by omega)]
  have hgood := best_good (e := e) hb
  obtain ⟨t, ht⟩ : ∃ t, bestOf e b b.at_ = t := ⟨_, rfl⟩
  rw [ht] at hB hgood
  have ht258 : t.1 ≤ 258 := by
    rcases hgood with ⟨h1, -⟩ | ⟨-, h1, -⟩
    · omega
    · exact h1
  unfold nextF
  rw [hB, ht]
  by_cases h0 : t.1 = 0
  · rw [if_pos h0, if_pos h0]
    exact ⟨hlit, h.pass 1 ha.len hb.len (by omega)⟩
  · rw [if_neg h0, if_neg h0]
    have he1 : Sim (enterF e a a.at_) (enterF e b b.at_) f := by rw [← hat]; exact h.enter ha.len hb.len (by omega)
    obtain ⟨d1, d2, d3⟩ := enter_D e a a.at_
    obtain ⟨f1, f2, f3⟩ := enter_D e b b.at_
    have hB2 : bestOf e (enterF e a a.at_) (a.at_ + 1) = bestOf e (enterF e b b.at_) (b.at_ + 1) := by
      rw [hat]
      rw [hat] at he1
      exact bestOf_sim he1 (hb.enter (by omega)) (by omega)
    rw [hB2]
    by_cases hc : e.lazy = true ∧ t.1 < e.nice
    · have hca : e.lazy = true ∧ t.1 < e.nice ∧ a.at_ + 1 < a.D.length := ⟨hc.1, hc.2, by omega⟩
      have hcb : e.lazy = true ∧ t.1 < e.nice ∧ b.at_ + 1 < b.D.length := ⟨hc.1, hc.2, by omega⟩
      rw [if_pos hca, if_pos hcb]
      by_cases hu : t.1 < (bestOf e (enterF e b b.at_) (b.at_ + 1)).1
      · rw [if_pos hu, if_pos hu]
        exact ⟨hlit, he1.moved⟩
      · rw [if_neg hu, if_neg hu]
        refine ⟨rfl, he1.moved.pass _ ?_ ?_ ?_⟩
        · show (enterF e a a.at_).P.length = (enterF e a a.at_).D.length; rw [enter_len, d1]; exact ha.len
        · show (enterF e b b.at_).P.length = (enterF e b b.at_).D.length; rw [enter_len, f1]; exact hb.len
        · show (enterF e a a.at_).at_ + 1 + (t.1 - 1) + 2 ≤ f; rw [d2]; omega
    · rw [if_neg (fun hh => hc ⟨hh.1, hh.2.1⟩), if_neg (fun hh => hc ⟨hh.1, hh.2.1⟩)]
      exact ⟨rfl, h.pass _ ha.len hb.len (by omega)⟩
theorem run_sim {a' : FSt} {l : List Tok} (hr : Run e 261 a l a') (h : Sim a b f) (ha : a.Ok a.at_) (hb : b.Ok b.at_) : ∃ b', Run e 0 b l b' ∧ Sim a' b' f := by
  induction hr with
  | nil => exact ⟨b, .nil b, h⟩
  | snoc h1 h2 ih =>
    obtain ⟨b1, r1, s1⟩ := ih
    obtain ⟨ok1, -, -, -⟩ := run_ok h1 ha
    obtain ⟨ok2, -, -, -⟩ := run_ok r1 hb
    have hn := next_sim (e := e) s1 ok1 ok2 h2
    have h5 := s1.len
    have h6 := s1.fl
    have h7 := s1.at_
    have := Run.snoc r1 (show 0 < b1.D.length - b1.at_ by omega)
    rw [← hn.1] at this
    exact ⟨_, this, hn.2⟩
theorem Sim.write (h : Sim a b f) (hla : a.P.length = a.D.length) {y : List Int} (hy : b.D.take f ++ y = b.D.take (f + y.length)) (hf : f + y.length ≤ b.D.length) (hs : b.D.length ≤ 131072) : Sim (writeF a y) b (f + y.length) := by
  refine ⟨?_, hf, fun q => ?_, ?_, h.at_, h.head⟩
  · show a.D ++ y = _; rw [h.D, hy]
  · show ix (a.P ++ List.replicate y.length 0) q = _
    rw [ix_append]
    split
    · exact h.P q
    · rename_i hq
      rw [ix_rep, ← h.P, ix_out _ (by omega)]
  · show (if _ then _ else a.base) = _
    rw [if_neg, h.base]
    rw [List.length_append, h.len]
    omega
theorem Sim.eq (h : Sim a b f) (hf : f = b.D.length) (hla : a.P.length = a.D.length) (hlb : b.P.length = b.D.length) : a = b := by
  subst hf
  obtain ⟨aD, aP, ab, aa, ah⟩ := a
  obtain ⟨bD, bP, bb, ba, bh⟩ := b
  have h1 := h.D
  have h2 := h.P
  have h3 := h.base
  have h4 := h.at_
  have h5 := h.head
  simp only [List.take_length] at h1 h2 h3 h4 h5 hla hlb
  have h6 : aP = bP := ext_ix2 (by rw [hla, hlb, h1]) fun i _ => h2 i
  rw [h1, h3, h4, h5, h6]
end
theorem Run.trans {e : Eff} {left : Nat} {s s1 s2 : FSt} {l1 l2 : List Tok} (h : Run e left s l1 s1) (h2 : Run e left s1 l2 s2) : Run e left s (l1 ++ l2) s2 := by
  induction h2 with
  | nil => rw [List.append_nil]; exact h
  | snoc h3 h4 ih => rw [← List.append_assoc]; exact Run.snoc ih h4
theorem Run.det {e : Eff} {left : Nat} {s s1 s2 : FSt} {l1 l2 : List Tok} (h1 : Run e left s l1 s1) (h2 : Run e left s l2 s2) (e1 : s1.D.length - s1.at_ ≤ left) (e2 : s2.D.length - s2.at_ ≤ left) : l1 = l2 := by
  induction l1 generalizing s l2 with
  | nil =>
    rcases h1.inv with ⟨-, rfl⟩ | ⟨l, -, h, -⟩
    · rcases h2.inv with ⟨h, -⟩ | ⟨l, h, -, -⟩
      · exact h.symm
      · omega
    · cases h
  | cons t l1 ih =>
    rcases h1.inv with ⟨h, -⟩ | ⟨l, h3, h4, h5⟩
    · cases h
    · injection h4 with h6 h7
      subst h7
      rcases h2.inv with ⟨-, rfl⟩ | ⟨l', h8, rfl, h9⟩
      · omega
      · rw [h6, ih h5 h9]
end Go.Proofs.Ytlnmicocmbdbdaa
