/-
  Several texts in one (written by pack2.py): InfO, InfR, IJoinP.
-/
import Derived.Test.YtckhkkjdibcclaaPk11
/-
  Plain law: what holds of every state that the machine comes to.
-/
namespace Go.Proofs.Ytckhkkjdibcclaa
set_option linter.unusedVariables false
structure IS.Ok (s : IS) : Prop where
  bit : Bit s.x
  even : s.st = 1 ∨ s.st = 2 ∨ s.st = 8 → s.x.length % 8 = 0
  cc : s.st = 4 ∨ s.st = 5 → 257 ≤ s.c0 ∧ s.c0 ≤ 286 ∧ 1 ≤ s.c1 ∧ s.c1 ≤ 30
  h4 : s.st = 4 → s.c2 ≤ 19 ∧ s.lens.length ≤ s.c2 ∧ ∀ v ∈ s.lens, 0 ≤ v ∧ v ≤ 7
  h5 : s.st = 5 → s.lens.length ≤ s.c0 + s.c1 ∧ (∀ v ∈ s.lens, 0 ≤ v ∧ v ≤ 15) ∧ checkOf s.hd 7 = 0 ∧ s.hd.length = 19
  h6 : s.st = 6 ∨ s.st = 7 → checkOf s.lt 15 = 0 ∧ checkOf s.ds 15 = 0
  h7 : s.st = 7 → 3 ≤ s.len ∧ s.len ≤ 258
  left : s.left ≤ 65535
  by_ : ∀ v ∈ s.all, 0 ≤ v ∧ v < 256
  st8 : s.st ≤ 8
section
variable {s t : IS} {x y b : List Int} {n m : Nat}
theorem IS.Ok.at0 (hst : s.st = 0 ∨ s.st = 3) (bit : Bit s.x) (left : s.left ≤ 65535) (by_ : ∀ v ∈ s.all, 0 ≤ v ∧ v < 256) : s.Ok :=
  ⟨bit, fun h => by omega, fun h => by omega, fun h => by omega, fun h => by omega, fun h => by omega, fun h => by omega, left, by_, by omega⟩
theorem IS.Ok.at1 (hst : s.st = 1 ∨ s.st = 2 ∨ s.st = 8) (bit : Bit s.x) (left : s.left ≤ 65535) (by_ : ∀ v ∈ s.all, 0 ≤ v ∧ v < 256) (even : s.x.length % 8 = 0) : s.Ok :=
  ⟨bit, fun h => even, fun h => by omega, fun h => by omega, fun h => by omega, fun h => by omega, fun h => by omega, left, by_, by omega⟩
theorem IS.Ok.at4 (hst : s.st = 4) (bit : Bit s.x) (left : s.left ≤ 65535) (by_ : ∀ v ∈ s.all, 0 ≤ v ∧ v < 256) (cc : 257 ≤ s.c0 ∧ s.c0 ≤ 286 ∧ 1 ≤ s.c1 ∧ s.c1 ≤ 30)
    (h4 : s.c2 ≤ 19 ∧ s.lens.length ≤ s.c2 ∧ ∀ v ∈ s.lens, 0 ≤ v ∧ v ≤ 7) : s.Ok :=
  ⟨bit, fun h => by omega, fun h => cc, fun h => h4, fun h => by omega, fun h => by omega, fun h => by omega, left, by_, by omega⟩
theorem IS.Ok.at5 (hst : s.st = 5) (bit : Bit s.x) (left : s.left ≤ 65535) (by_ : ∀ v ∈ s.all, 0 ≤ v ∧ v < 256) (cc : 257 ≤ s.c0 ∧ s.c0 ≤ 286 ∧ 1 ≤ s.c1 ∧ s.c1 ≤ 30)
    (h5 : s.lens.length ≤ s.c0 + s.c1 ∧ (∀ v ∈ s.lens, 0 ≤ v ∧ v ≤ 15) ∧ checkOf s.hd 7 = 0 ∧ s.hd.length = 19) : s.Ok :=
  ⟨bit, fun h => by omega, fun h => cc, fun h => by omega, fun h => h5, fun h => by omega, fun h => by omega, left, by_, by omega⟩
theorem IS.Ok.at6 (hst : s.st = 6 ∨ s.st = 7) (bit : Bit s.x) (left : s.left ≤ 65535) (by_ : ∀ v ∈ s.all, 0 ≤ v ∧ v < 256) (h6 : checkOf s.lt 15 = 0 ∧ checkOf s.ds 15 = 0)
    (h7 : s.st = 7 → 3 ≤ s.len ∧ s.len ≤ 258) : s.Ok :=
  ⟨bit, fun h => by omega, fun h => by omega, fun h => by omega, fun h => by omega, fun h => h6, h7, left, by_, by omega⟩
theorem num_lt {x : List Int} (h : Bit x) (n : Nat) : num x n < 2 ^ n := by
  have h1 := numI_bd (h.take_ n)
  have h2 := pow_mono2 (show (x.take n).length ≤ n by simp; omega)
  have h3 : ((2 ^ n : Nat) : Int) = 2 ^ n := by simp
  unfold num
  omega
theorem num_int {x : List Int} (h : Bit x) (n : Nat) : ((num x n : Nat) : Int) = numI (x.take n) := by
  have h1 := numI_bd (h.take_ n)
  unfold num
  omega
theorem Bit.algn {x : List Int} (h : Bit x) : Bit (algn x) := h.drop_ _
theorem hAll_length (l : List Int) : (hAll l).length = 19 := by simp [hAll]
theorem fix_ok : checkOf fixL 15 = 0 ∧ checkOf fixD 15 = 0 := by decide +kernel
theorem lB_sum {j v : Nat} (hj : j < 29) (hv : v < 2 ^ lE j) : 3 ≤ lB j + v ∧ lB j + v ≤ 258 := by
  have : ∀ j, j < 29 → 3 ≤ lB j ∧ lB j + 2 ^ lE j ≤ 259 := by decide +kernel
  have := this j hj
  omega
theorem dB_sum {j v : Nat} (hj : j < 30) (hv : v < 2 ^ dE j) : 1 ≤ dB j + v ∧ dB j + v ≤ 32768 := by
  have : ∀ j, j < 30 → 1 ≤ dB j ∧ dB j + 2 ^ dE j ≤ 32769 := by decide +kernel
  have := this j hj
  omega
theorem IS.Ok.over (h : s.Ok) : s.over.Ok := by
  unfold IS.over
  split
  · exact .at1 (.inr (.inr rfl)) h.bit.algn h.left h.by_ (by show (algn s.x).length % 8 = 0; rw [algn_length]; omega)
  · exact .at0 (.inl rfl) h.bit h.left h.by_
/-- bytes that come out leave all else as it is -/
theorem IS.Ok.emit (h : s.Ok) {b : List Int} (hb : ∀ v ∈ b, 0 ≤ v ∧ v < 256) : (s.emit b).1.Ok :=
  ⟨h.bit, h.even, h.cc, h.h4, h.h5, h.h6, h.h7, h.left, fun v hv => by
    rcases List.mem_append.1 hv with h1 | h1
    · exact h.by_ v h1
    · exact hb v (List.mem_of_mem_take h1), h.st8⟩
/-- a symbol that is read -/
theorem sym_read {l x : List Int} (hb : Bit x) (h : ¬ (nextOf l x).2.2 ≠ 0) : ∃ k n : Nat, nextOf l x = ((k : Int), n, 0) ∧ k < l.length ∧ 1 ≤ n ∧ n ≤ 15 ∧ n ≤ x.length := by
  obtain ⟨k, n, h1, h2, h3, h4, h5, h6, h7⟩ := next_sym hb (Decidable.not_not.1 h)
  exact ⟨k, n, h1, h2, h4, h5, h6⟩
theorem again_by {l : List Int} (h : ∀ v ∈ l, 0 ≤ v ∧ v < 256) (D N : Nat) : ∀ v ∈ again l D N, 0 ≤ v ∧ v < 256 := by
  intro v hv
  unfold again at hv
  obtain ⟨i, _, rfl⟩ := List.mem_map.1 hv
  exact ix_bd h _
set_option maxHeartbeats 1000000 in
theorem IS.Ok.step (h : s.Ok) (e : s.step.2 = 0 ∨ s.step.2 = 6) : s.step.1.Ok := by
  unfold IS.step at e ⊢
  by_cases h0 : s.st = 0
  · rw [if_pos h0] at e ⊢
    unfold IS.block at e ⊢
    by_cases hx : s.x.length < 3
    · rw [if_pos hx] at e; simp at e
    rw [if_neg hx] at e ⊢
    by_cases h1 : num s.x 3 / 2 = 0
    · rw [if_pos h1]
      exact .at1 (.inl rfl) (h.bit.drop_ 3).algn h.left h.by_ (by show (algn (s.x.drop 3)).length % 8 = 0; rw [algn_length]; omega)
    rw [if_neg h1] at e ⊢
    by_cases h2 : num s.x 3 / 2 = 1
    · rw [if_pos h2]
      exact .at6 (.inl rfl) (h.bit.drop_ 3) h.left h.by_ fix_ok (fun e => by simp at e)
    rw [if_neg h2] at e ⊢
    by_cases h3 : num s.x 3 / 2 = 2
    · rw [if_pos h3]
      exact .at0 (.inr rfl) (h.bit.drop_ 3) h.left h.by_
    · rw [if_neg h3] at e; simp at e
  rw [if_neg h0] at e ⊢
  by_cases h1 : s.st = 1
  · rw [if_pos h1] at e ⊢
    unfold IS.size at e ⊢
    by_cases hx : s.x.length < 32
    · rw [if_pos hx] at e; simp at e
    rw [if_neg hx] at e ⊢
    by_cases h2 : num s.x 32 % 65536 + num s.x 32 / 65536 = 65535
    · rw [if_pos h2]
      exact .at1 (.inr (.inl rfl)) (h.bit.drop_ 32) (by show num s.x 32 % 65536 ≤ 65535; omega) h.by_ (by have := h.even (.inl h1); show (s.x.drop 32).length % 8 = 0; rw [List.length_drop]; omega)
    · rw [if_neg h2] at e; simp at e
  rw [if_neg h1] at e ⊢
  by_cases h2 : s.st = 2
  · rw [if_pos h2] at e ⊢
    unfold IS.stored at e ⊢
    by_cases hl : s.left = 0
    · rw [if_pos hl]; exact h.over
    rw [if_neg hl] at e ⊢
    by_cases hx : s.x.length < 8
    · rw [if_pos hx] at e; simp at e
    rw [if_neg hx]
    refine IS.Ok.emit (s := { s with x := s.x.drop 8, left := s.left - 1 }) (.at1 (.inr (.inl h2)) (h.bit.drop_ 8) (by have := h.left; show s.left - 1 ≤ 65535; omega) h.by_ (by have := h.even (.inr (.inl h2)); show (s.x.drop 8).length % 8 = 0; rw [List.length_drop]; omega)) ?_
    intro v hv
    simp at hv
    subst hv
    have := num_lt h.bit 8
    omega
  rw [if_neg h2] at e ⊢
  by_cases h3 : s.st = 3
  · rw [if_pos h3] at e ⊢
    unfold IS.sizes at e ⊢
    by_cases hx : s.x.length < 14
    · rw [if_pos hx] at e; simp at e
    rw [if_neg hx] at e ⊢
    by_cases h4 : 286 < num s.x 14 % 32 + 257 ∨ 30 < num s.x 14 / 32 % 32 + 1
    · rw [if_pos h4] at e; simp at e
    rw [if_neg h4]
    have hn := num_lt h.bit 14
    refine .at4 rfl (h.bit.drop_ 14) h.left h.by_ ?_ ?_
    · show 257 ≤ num s.x 14 % 32 + 257 ∧ num s.x 14 % 32 + 257 ≤ 286 ∧ 1 ≤ num s.x 14 / 32 % 32 + 1 ∧ num s.x 14 / 32 % 32 + 1 ≤ 30
      omega
    · refine ⟨?_, Nat.zero_le _, fun v hv => by simp at hv⟩
      show num s.x 14 / 1024 + 4 ≤ 19
      omega
  rw [if_neg h3] at e ⊢
  by_cases h4 : s.st = 4
  · rw [if_pos h4] at e ⊢
    unfold IS.heads at e ⊢
    obtain ⟨q1, q2, q3⟩ := h.h4 h4
    have hcc := h.cc (.inl h4)
    by_cases hc : s.lens.length < s.c2
    · rw [if_pos hc] at e ⊢
      by_cases hx : s.x.length < 3
      · rw [if_pos hx] at e; simp at e
      rw [if_neg hx]
      refine .at4 h4 (h.bit.drop_ 3) h.left h.by_ hcc ⟨q1, ?_, ?_⟩
      · show (s.lens ++ [_]).length ≤ s.c2
        simp; omega
      · intro v hv
        rcases List.mem_append.1 hv with h1 | h1
        · exact q3 v h1
        · simp at h1; subst h1
          have := num_lt h.bit 3
          omega
    rw [if_neg hc] at e ⊢
    by_cases h5 : checkOf (hAll s.lens) 7 ≠ 0 ∨ noneB s.lens = true
    · rw [if_pos h5] at e; simp at e
    rw [if_neg h5]
    exact .at5 rfl h.bit h.left h.by_ hcc ⟨Nat.zero_le _, fun v hv => by simp at hv, Decidable.not_not.1 fun h6 => h5 (.inl h6), hAll_length _⟩
  rw [if_neg h4] at e ⊢
  by_cases h5 : s.st = 5
  · rw [if_pos h5] at e ⊢
    unfold IS.lengths at e ⊢
    obtain ⟨q1, q2, q3, q4⟩ := h.h5 h5
    have hcc := h.cc (.inr h5)
    by_cases hc : s.lens.length < s.c0 + s.c1
    · rw [if_pos hc] at e ⊢
      unfold IS.length at e ⊢
      by_cases e1 : (nextOf s.hd s.x).2.2 ≠ 0
      · rw [if_pos e1] at e
        rcases nextOf_err s.hd s.x with h6 | h6 | h6 <;> omega
      rw [if_neg e1] at e ⊢
      obtain ⟨k, n, hk, hk1, hn1, hn2, hn3⟩ := sym_read h.bit e1
      rw [hk] at e ⊢
      simp only at e ⊢
      by_cases h6 : (k : Int) < 16
      · rw [if_pos h6]
        refine .at5 h5 (h.bit.drop_ _) h.left h.by_ hcc ⟨?_, ?_, q3, q4⟩
        · show (s.lens ++ [_]).length ≤ s.c0 + s.c1
          simp; omega
        · intro v hv
          rcases List.mem_append.1 hv with h1 | h1
          · exact q2 v h1
          · simp at h1; subst h1; omega
      rw [if_neg h6] at e ⊢
      by_cases h7 : (k : Int) = 16 ∧ s.lens.length = 0
      · rw [if_pos h7] at e; simp at e
      rw [if_neg h7] at e ⊢
      by_cases h8 : (s.x.drop n).length < IS.rW k
      · rw [if_pos h8] at e; simp at e
      rw [if_neg h8] at e ⊢
      unfold IS.repeat_ at e ⊢
      by_cases h9 : s.c0 + s.c1 < s.lens.length + (IS.rB k + num (s.x.drop n) (IS.rW k))
      · rw [if_pos h9] at e; simp at e
      rw [if_neg h9]
      refine .at5 h5 ((h.bit.drop_ _).drop_ _) h.left h.by_ hcc ⟨?_, ?_, q3, q4⟩
      · show (s.lens ++ List.replicate _ _).length ≤ s.c0 + s.c1
        rw [List.length_append, List.length_replicate]; omega
      · intro v hv
        rcases List.mem_append.1 hv with h1 | h1
        · exact q2 v h1
        · rw [List.eq_of_mem_replicate h1]
          split
          · rename_i h10
            unfold ix
            have hp : s.lens.length ≠ 0 := fun e0 => h7 ⟨h10, e0⟩
            rw [List.getD_eq_getElem?_getD, List.getElem?_eq_getElem (show s.lens.length - 1 < s.lens.length by omega)]
            exact q2 _ (List.getElem_mem _)
          · omega
    rw [if_neg hc] at e ⊢
    by_cases h6 : checkOf (s.lens.take s.c0) 15 ≠ 0 ∨ checkOf (s.lens.drop s.c0) 15 ≠ 0 ∨ ix s.lens 256 = 0
    · rw [if_pos h6] at e; simp at e
    rw [if_neg h6]
    exact .at6 (.inl rfl) h.bit h.left h.by_ ⟨Decidable.not_not.1 fun h7 => h6 (.inl h7), Decidable.not_not.1 fun h7 => h6 (.inr (.inl h7))⟩ (fun e => by simp at e)
  rw [if_neg h5] at e ⊢
  by_cases h6 : s.st = 6
  · rw [if_pos h6] at e ⊢
    unfold IS.token at e ⊢
    have hh := h.h6 (.inl h6)
    by_cases e1 : (nextOf s.lt s.x).2.2 ≠ 0
    · rw [if_pos e1] at e
      rcases nextOf_err s.lt s.x with h6 | h6 | h6 <;> omega
    rw [if_neg e1] at e ⊢
    obtain ⟨k, n, hk, hk1, hn1, hn2, hn3⟩ := sym_read h.bit e1
    rw [hk] at e ⊢
    simp only at e ⊢
    by_cases h7 : (k : Int) < 256
    · rw [if_pos h7]
      refine IS.Ok.emit (s := { s with x := s.x.drop n, toks := s.toks ++ [Tok.mk (k : Int) 0 0] }) (.at6 (.inl h6) (h.bit.drop_ _) h.left h.by_ hh (fun e => by simp [h6] at e)) ?_
      intro v hv
      simp at hv; subst hv; omega
    rw [if_neg h7] at e ⊢
    by_cases h8 : (k : Int) = 256
    · rw [if_pos h8]
      exact IS.Ok.over (s := { s with x := s.x.drop n }) (.at6 (.inl h6) (h.bit.drop_ _) h.left h.by_ hh (fun e => by simp [h6] at e))
    rw [if_neg h8] at e ⊢
    by_cases h9 : 285 < (k : Int)
    · rw [if_pos h9] at e; simp at e
    rw [if_neg h9] at e ⊢
    obtain ⟨j, hj⟩ : ∃ j, ((k : Int) - 257).toNat = j := ⟨_, rfl⟩
    rw [hj] at e ⊢
    by_cases h10 : (s.x.drop n).length < lE j
    · rw [if_pos h10] at e; simp at e
    rw [if_neg h10]
    exact .at6 (.inr rfl) ((h.bit.drop_ _).drop_ _) h.left h.by_ hh (fun _ => lB_sum (by omega) (num_lt (h.bit.drop_ _) _))
  rw [if_neg h6] at e ⊢
  by_cases h7 : s.st = 7
  · rw [if_pos h7] at e ⊢
    unfold IS.dist at e ⊢
    have hh := h.h6 (.inr h7)
    by_cases e1 : (nextOf s.ds s.x).2.2 ≠ 0
    · rw [if_pos e1] at e
      rcases nextOf_err s.ds s.x with h6 | h6 | h6 <;> omega
    rw [if_neg e1] at e ⊢
    obtain ⟨k, n, hk, hk1, hn1, hn2, hn3⟩ := sym_read h.bit e1
    rw [hk] at e ⊢
    simp only at e ⊢
    by_cases h8 : 29 < (k : Int)
    · rw [if_pos h8] at e; simp at e
    rw [if_neg h8] at e ⊢
    by_cases h10 : (s.x.drop n).length < dE (k : Int).toNat
    · rw [if_pos h10] at e; simp at e
    rw [if_neg h10] at e ⊢
    unfold IS.text at e ⊢
    have hb2 : Bit ((s.x.drop n).drop (dE (k : Int).toNat)) := (h.bit.drop_ _).drop_ _
    generalize (s.x.drop n).drop (dE (k : Int).toNat) = x1 at e hb2 ⊢
    generalize dB (k : Int).toNat + num (s.x.drop n) (dE (k : Int).toNat) = D at e ⊢
    by_cases h11 : s.all.length < D
    · rw [if_pos h11] at e; simp at e
    rw [if_neg h11]
    exact IS.Ok.emit (s := { s with x := x1, st := 6, toks := s.toks ++ [Tok.mk 0 s.len D] }) (.at6 (.inl rfl) hb2 h.left h.by_ hh (fun e => by simp at e)) (again_by h.by_ _ _)
  · rw [if_neg h7] at e; simp at e
theorem IS.Ok.steps (h : s.Ok) (hs : IS.Steps s t) : t.Ok := by
  induction hs with
  | refl => exact h
  | tail _ h2 ih => exact ih.step (.inl h2)
theorem IS.Ok.start {x : List Int} (h : Bit x) (m : Nat) : (start x m).Ok := .at0 (.inl rfl) h (Nat.zero_le _) (fun v hv => by simp [Go.Proofs.Ytckhkkjdibcclaa.start] at hv)
/-- the machine ends with 8 only where it stands at 8 -/
theorem IS.step_done (h : s.step.2 = 8) : s.step.1 = s ∧ s.st ≠ 0 ∧ s.st ≠ 1 ∧ s.st ≠ 2 ∧ s.st ≠ 3 ∧ s.st ≠ 4 ∧ s.st ≠ 5 ∧ s.st ≠ 6 ∧ s.st ≠ 7 := by
  unfold IS.step at h ⊢
  have hem : ∀ (s : IS) b, (s.emit b).2 ≠ 8 := fun s b => by unfold IS.emit; simp only; split <;> decide
  by_cases h0 : s.st = 0
  · rw [if_pos h0] at h; unfold IS.block at h; exfalso; revert h; repeat' split
    all_goals simp
  rw [if_neg h0] at h ⊢
  by_cases h1 : s.st = 1
  · rw [if_pos h1] at h; unfold IS.size at h; exfalso; revert h; repeat' split
    all_goals simp
  rw [if_neg h1] at h ⊢
  by_cases h2 : s.st = 2
  · rw [if_pos h2] at h; unfold IS.stored at h; exfalso; revert h; repeat' split
    · simp
    · simp
    · exact hem _ _
  rw [if_neg h2] at h ⊢
  by_cases h3 : s.st = 3
  · rw [if_pos h3] at h; unfold IS.sizes at h; exfalso; revert h; repeat' split
    all_goals simp
  rw [if_neg h3] at h ⊢
  by_cases h4 : s.st = 4
  · rw [if_pos h4] at h; unfold IS.heads at h; exfalso; revert h; repeat' split
    all_goals simp
  rw [if_neg h4] at h ⊢
  by_cases h5 : s.st = 5
  · rw [if_pos h5] at h; unfold IS.lengths IS.length IS.repeat_ at h; exfalso
    have := nextOf_err s.hd s.x
    revert h; repeat' split
    all_goals (intro h; simp at h <;> omega)
  rw [if_neg h5] at h ⊢
  by_cases h6 : s.st = 6
  · rw [if_pos h6] at h; unfold IS.token at h; exfalso
    have := nextOf_err s.lt s.x
    revert h; repeat' split
    all_goals first
      | exact hem _ _
      | (intro h; simp at h <;> omega)
  rw [if_neg h6] at h ⊢
  by_cases h7 : s.st = 7
  · rw [if_pos h7] at h; unfold IS.dist IS.text at h; exfalso
    have := nextOf_err s.ds s.x
    revert h; repeat' split
    all_goals first
      | exact hem _ _
      | (intro h; simp at h <;> omega)
  rw [if_neg h7]
  exact ⟨rfl, h0, h1, h2, h3, h4, h5, h6, h7⟩
end
end Go.Proofs.Ytckhkkjdibcclaa

/-
  Plain law: several stored bytes at once.
-/
namespace Go.Proofs.Ytckhkkjdibcclaa
set_option linter.unusedVariables false
section
variable {s : IS} {B : List Int} {j : Nat}
theorem num_byte (hB : ∀ x ∈ B, 0 ≤ x ∧ x < 256) (hj : j < B.length) : ((num (rb B (8 * j)) 8 : Nat) : Int) = ix B j := by
  rw [num_int (Bit.rb B _)]
  unfold rb
  rw [bts_byte B hj, numI_ofN]
  have := ix_bd hB j
  have h : (2 : Int) ^ 8 = 256 := rfl
  rw [h]
  omega
theorem take_more {l : List Int} {j K : Nat} (h : j + K < l.length) : (l.drop j).take (K + 1) = (l.drop j).take K ++ [ix l (j + K)] := by
  rw [List.take_succ_eq_append_getElem (by rw [List.length_drop]; omega)]
  congr 1
  simp [ix, List.getD_eq_getElem?_getD, List.getElem?_eq_getElem h]
theorem stored_one (hB : ∀ x ∈ B, 0 ≤ x ∧ x < 256) (hst : s.st = 2) (hx : s.x = rb B (8 * j)) (hj : j < B.length) (hl : s.left ≠ 0) :
    s.step = { s with x := rb B (8 * (j + 1)), left := s.left - 1 }.emit [ix B j] := by
  unfold IS.step
  rw [if_neg (by omega), if_neg (by omega), if_pos hst]
  unfold IS.stored
  rw [if_neg hl, if_neg (by rw [hx, rb_length]; omega), hx, num_byte hB hj, rb_drop, show 8 * j + 8 = 8 * (j + 1) by omega]
theorem stored_steps (hB : ∀ x ∈ B, 0 ≤ x ∧ x < 256) (hst : s.st = 2) (hx : s.x = rb B (8 * j)) (K : Nat) (hK : K ≤ s.left) (hj : j + K ≤ B.length) (hr : K ≤ s.rem) :
    IS.Steps s { s with x := rb B (8 * (j + K)), left := s.left - K, all := s.all ++ (B.drop j).take K, rem := s.rem - K } := by
  induction K with
  | zero =>
    have : ({ s with x := rb B (8 * (j + 0)), left := s.left - 0, all := s.all ++ (B.drop j).take 0, rem := s.rem - 0 } : IS) = s := by
      rw [Nat.add_zero, ← hx, List.take_zero, List.append_nil]
      rfl
    rw [this]
    exact .refl s
  | succ K ih =>
    have h1 := ih (by omega) (by omega) (by omega)
    have h2 := stored_one (s := { s with x := rb B (8 * (j + K)), left := s.left - K, all := s.all ++ (B.drop j).take K, rem := s.rem - K }) hB hst rfl (by omega) (by show s.left - K ≠ 0; omega)
    have h3 : IS.step { s with x := rb B (8 * (j + K)), left := s.left - K, all := s.all ++ (B.drop j).take K, rem := s.rem - K } = ({ s with x := rb B (8 * (j + (K + 1))), left := s.left - (K + 1), all := s.all ++ (B.drop j).take (K + 1), rem := s.rem - (K + 1) }, 0) := by
      rw [h2]
      unfold IS.emit
      simp only
      rw [if_neg (by simp; omega), List.take_of_length_le (l := [ix B (j + K)]) (by simp; omega), take_more (by omega), List.append_assoc, show s.left - K - 1 = s.left - (K + 1) by omega, show s.rem - K - [ix B (j + K)].length = s.rem - (K + 1) by simp; omega]
      rfl
    have h4 := IS.Steps.tail h1 (by rw [h3])
    rwa [h3] at h4
theorem stored_cap (hB : ∀ x ∈ B, 0 ≤ x ∧ x < 256) (hst : s.st = 2) (hx : s.x = rb B (8 * j)) (K : Nat) (hK : K ≤ s.left) (hj : j + K ≤ B.length) (hr : s.rem < K) :
    s.fin.2 = 6 ∧ s.fin.1.all = s.all ++ (B.drop j).take s.rem := by
  have h1 := stored_steps hB hst hx s.rem (by omega) (by omega) (Nat.le_refl _)
  have h2 := stored_one (s := { s with x := rb B (8 * (j + s.rem)), left := s.left - s.rem, all := s.all ++ (B.drop j).take s.rem, rem := s.rem - s.rem }) hB hst rfl (by omega) (by show s.left - s.rem ≠ 0; omega)
  have h3 : (IS.step { s with x := rb B (8 * (j + s.rem)), left := s.left - s.rem, all := s.all ++ (B.drop j).take s.rem, rem := s.rem - s.rem }).2 = 6 := by
    rw [h2]
    unfold IS.emit
    simp
  rw [← h1.fin_eq, IS.fin_stop (by rw [h3]; decide)]
  refine ⟨h3, ?_⟩
  rw [h2]
  unfold IS.emit
  simp
end
end Go.Proofs.Ytckhkkjdibcclaa

/-
  Plain law: a stored block, a fixed block with one text that was, a stored block that is the last.
-/
namespace Go.Proofs.Ytckhkkjdibcclaa
set_option linter.unusedVariables false
section
variable {s : IS} {y pad B : List Int}
theorem num_is {x z : List Int} {n : Nat} (h : x.length = n) : num (x ++ z) n = (numI x).toNat := by
  rw [num_app (by omega)]; unfold num; rw [List.take_of_length_le (by omega)]
theorem algn_pad {R : List Int} (hp : pad.length < 8) (hR : R.length % 8 = 0) : algn (pad ++ R) = R := by
  unfold algn
  rw [List.length_append, show (pad.length + R.length) % 8 = pad.length by omega, List.drop_left]
theorem drop_len {a R : List Int} {n : Nat} (h : a.length = n) : (a ++ R).drop n = R := by subst h; exact List.drop_left
theorem size_num (n : Nat) (h : n ≤ 65535) (z : List Int) : num (ofN n 16 ++ ofN (65535 - n) 16 ++ z) 32 = n + 65536 * (65535 - n) := by
  rw [num_is (by rw [List.length_append, ofN_length, ofN_length]), numI_append, ofN_length, numI_ofN, numI_ofN]
  have e : (2 : Int) ^ 16 = 65536 := by decide
  rw [e]
  omega
theorem even_bts (hy : y.length % 8 = 0) (hb : Bit y) : bts (byt y) = y := by
  have h := bts_byt hb
  have : rest y = [] := List.eq_nil_of_length_eq_zero (by rw [rest_length]; exact hy)
  rw [this, List.append_nil] at h
  exact h
/-- a stored block -/
theorem stored_block (hst : s.st = 0) {h : Int} (hh : h = 0 ∨ h = 1) (hx : s.x = [h, 0, 0] ++ (pad ++ (ofN B.length 16 ++ ofN (65535 - B.length) 16 ++ (bts B ++ y)))) (hp : pad.length < 8) (hy : y.length % 8 = 0) (hyb : Bit y) (hB : ∀ x ∈ B, 0 ≤ x ∧ x < 256) (hlen : B.length ≤ 65535) (hr : B.length ≤ s.rem) :
    IS.Steps s ({ s with last := decide (h = 1), kinds := s.kinds ++ [0], left := 0, all := s.all ++ B, rem := s.rem - B.length, x := y, st := 2 } : IS).over := by
  have hn3 : num s.x 3 = h.toNat := by
    rw [hx, num_is (x := [h, 0, 0]) (n := 3) rfl]
    rcases hh with rfl | rfl <;> rfl
  have hd3 : s.x.drop 3 = pad ++ (ofN B.length 16 ++ ofN (65535 - B.length) 16 ++ (bts B ++ y)) := by rw [hx]; rfl
  have hRl : (ofN B.length 16 ++ ofN (65535 - B.length) 16 ++ (bts B ++ y)).length = 32 + (8 * B.length + y.length) := by
    rw [List.length_append, List.length_append, List.length_append, ofN_length, ofN_length, bts_length]
  have e1 : s.step = ({ s with last := decide (h = 1), kinds := s.kinds ++ [0], x := ofN B.length 16 ++ ofN (65535 - B.length) 16 ++ (bts B ++ y), st := 1 }, 0) := by
    unfold IS.step
    rw [if_pos hst]
    unfold IS.block
    rw [if_neg (by rw [hx, List.length_append]; simp), hn3, if_pos (by rcases hh with rfl | rfl <;> rfl), hd3, algn_pad hp (by omega)]
    rcases hh with rfl | rfl <;> rfl
  have e2 : ({ s with last := decide (h = 1), kinds := s.kinds ++ [0], x := ofN B.length 16 ++ ofN (65535 - B.length) 16 ++ (bts B ++ y), st := 1 } : IS).step = ({ s with last := decide (h = 1), kinds := s.kinds ++ [0], x := bts B ++ y, left := B.length, st := 2 }, 0) := by
    unfold IS.step
    rw [if_neg (by simp), if_pos rfl]
    unfold IS.size
    simp only
    rw [if_neg (by rw [hRl]; omega), size_num _ hlen, if_pos (by omega), drop_len (by rw [List.length_append, ofN_length, ofN_length])]
    congr 2
    omega
  have hBy : ∀ x ∈ B ++ byt y, 0 ≤ x ∧ x < 256 := fun x hx => by
    rcases List.mem_append.1 hx with h1 | h1
    · exact hB x h1
    · exact byt_bd hyb x h1
  have hxy : bts (B ++ byt y) = bts B ++ y := by rw [bts_append, even_bts hy hyb]
  have h3 := stored_steps (s := { s with last := decide (h = 1), kinds := s.kinds ++ [0], x := bts B ++ y, left := B.length, st := 2 }) (B := B ++ byt y) (j := 0) hBy rfl (by show bts B ++ y = (bts (B ++ byt y)).drop 0; rw [hxy]; rfl) B.length (Nat.le_refl _) (by rw [List.length_append]; omega) hr
  have hrb : rb (B ++ byt y) (8 * (0 + B.length)) = y := by
    unfold rb
    rw [hxy, Nat.zero_add]
    exact drop_len (by rw [bts_length])
  rw [hrb, List.drop_zero, List.take_left] at h3
  have e4 : ({ s with last := decide (h = 1), kinds := s.kinds ++ [0], left := 0, all := s.all ++ B, rem := s.rem - B.length, x := y, st := 2 } : IS).step = (({ s with last := decide (h = 1), kinds := s.kinds ++ [0], left := 0, all := s.all ++ B, rem := s.rem - B.length, x := y, st := 2 } : IS).over, 0) := by
    unfold IS.step
    rw [if_neg (by simp), if_neg (by simp), if_pos rfl]
    unfold IS.stored
    rw [if_pos rfl]
  have s1 := IS.Steps.one (s := s) (by rw [e1])
  rw [e1] at s1
  have s2 := s1.tail (by rw [e2])
  rw [e2] at s2
  have h3' : IS.Steps { s with last := decide (h = 1), kinds := s.kinds ++ [0], x := bts B ++ y, left := B.length, st := 2 } { s with last := decide (h = 1), kinds := s.kinds ++ [0], left := 0, all := s.all ++ B, rem := s.rem - B.length, x := y, st := 2 } := by
    have := h3
    simp only [Nat.sub_self] at this
    exact this
  have s4 := (s2.trans h3').tail (by rw [e4])
  rw [e4] at s4
  exact s4
/-- a code's bits, the highest first -/
def hiB (v : Int) (n : Nat) : List Int := (ofN v n).reverse
theorem hiB_length (v : Int) (n : Nat) : (hiB v n).length = n := by unfold hiB; rw [List.length_reverse, ofN_length]
def lenC (j : Nat) : List Int := if 23 ≤ j then hiB (169 + (j : Int)) 8 else hiB (1 + (j : Int)) 7
def lenN (j : Nat) : Nat := if 23 ≤ j then 8 else 7
theorem lenC_length (j : Nat) : (lenC j).length = lenN j := by unfold lenC lenN; split <;> rw [hiB_length]
theorem len_next : ∀ j, j < 29 → nextOf fixL (lenC j) = (257 + (j : Int), lenN j, 0) := by decide +kernel
theorem dist_next : ∀ j : Nat, j < 30 → nextOf fixD (hiB (j : Int) 5) = ((j : Int), 5, 0) := by decide +kernel
theorem end_next : nextOf fixL [0, 0, 0, 0, 0, 0, 0] = (256, 7, 0) := by decide +kernel
theorem next_at {l x : List Int} {r : Int} {n : Nat} (h : nextOf l x = (r, n, 0)) (z : List Int) : nextOf l (x ++ z) = (r, n, 0) := by
  rw [nextOf_app l x z (by rw [h]; simp), h]
/-- a fixed block with one text that was -/
theorem text_block (hst : s.st = 0) {i j v u : Nat} (hj : j < 29) (hi : i < 30) (hv : v < 2 ^ lE j) (hu : u < 2 ^ dE i) (hx : s.x = [0, 1, 0] ++ (lenC j ++ (ofN v (lE j) ++ (hiB (i : Int) 5 ++ (ofN u (dE i) ++ ([0, 0, 0, 0, 0, 0, 0] ++ y))))))
    (hD : dB i + u ≤ s.all.length) (hN : lB j + v ≤ s.rem) :
    ∃ t : IS, IS.Steps s t ∧ t.st = 0 ∧ t.x = y ∧ t.all = s.all ++ again s.all (dB i + u) (lB j + v) ∧ t.rem = s.rem - (lB j + v) := by
  have hn3 : num s.x 3 = 2 := by rw [hx, num_is (x := [0, 1, 0]) (n := 3) rfl]; rfl
  have hd3 : s.x.drop 3 = lenC j ++ (ofN v (lE j) ++ (hiB (i : Int) 5 ++ (ofN u (dE i) ++ ([0, 0, 0, 0, 0, 0, 0] ++ y)))) := by rw [hx]; rfl
  have e1 : s.step = ({ s with last := false, kinds := s.kinds ++ [1], x := lenC j ++ (ofN v (lE j) ++ (hiB (i : Int) 5 ++ (ofN u (dE i) ++ ([0, 0, 0, 0, 0, 0, 0] ++ y)))), lt := fixL, ds := fixD, st := 6 }, 0) := by
    unfold IS.step
    rw [if_pos hst]
    unfold IS.block
    rw [if_neg (by rw [hx, List.length_append]; simp), hn3, if_neg (by decide), if_pos (by decide), hd3]
    rfl
  obtain ⟨s1, hs1⟩ : ∃ s1 : IS, s1 = { s with last := false, kinds := s.kinds ++ [1], x := lenC j ++ (ofN v (lE j) ++ (hiB (i : Int) 5 ++ (ofN u (dE i) ++ ([0, 0, 0, 0, 0, 0, 0] ++ y)))), lt := fixL, ds := fixD, st := 6 } := ⟨_, rfl⟩
  rw [← hs1] at e1
  have a1 : s1.all = s.all ∧ s1.rem = s.rem ∧ s1.st = 6 ∧ s1.lt = fixL ∧ s1.ds = fixD ∧ s1.last = false ∧ s1.x = lenC j ++ (ofN v (lE j) ++ (hiB (i : Int) 5 ++ (ofN u (dE i) ++ ([0, 0, 0, 0, 0, 0, 0] ++ y)))) := by rw [hs1]; exact ⟨rfl, rfl, rfl, rfl, rfl, rfl, rfl⟩
  clear hs1
  obtain ⟨b1, b2, b3, b4, b5, b6, b7⟩ := a1
  have nx : nextOf s1.lt s1.x = (257 + (j : Int), lenN j, 0) := by rw [b4, b7]; exact next_at (len_next j hj) _
  have dx : s1.x.drop (lenN j) = ofN v (lE j) ++ (hiB (i : Int) 5 ++ (ofN u (dE i) ++ ([0, 0, 0, 0, 0, 0, 0] ++ y))) := by rw [b7]; exact drop_len (lenC_length j)
  have nv : num (ofN v (lE j) ++ (hiB (i : Int) 5 ++ (ofN u (dE i) ++ ([0, 0, 0, 0, 0, 0, 0] ++ y)))) (lE j) = v := by
    rw [num_is (ofN_length _ _), numI_ofN, Int.emod_eq_of_lt (by omega) (by exact_mod_cast hv)]
    rfl
  have ej : (257 + (j : Int) - 257).toNat = j := by omega
  have e2 : s1.step = ({ s1 with x := hiB (i : Int) 5 ++ (ofN u (dE i) ++ ([0, 0, 0, 0, 0, 0, 0] ++ y)), len := lB j + v, st := 7 }, 0) := by
    unfold IS.step
    rw [if_neg (by omega), if_neg (by omega), if_neg (by omega), if_neg (by omega), if_neg (by omega), if_neg (by omega), if_pos b3]
    unfold IS.token
    rw [nx]
    simp only
    rw [if_neg (by decide), if_neg (by omega), if_neg (by omega), if_neg (by omega), dx, ej, if_neg (by rw [List.length_append, ofN_length]; omega), nv, drop_len (ofN_length _ _)]
  obtain ⟨s2, hs2⟩ : ∃ s2 : IS, s2 = { s1 with x := hiB (i : Int) 5 ++ (ofN u (dE i) ++ ([0, 0, 0, 0, 0, 0, 0] ++ y)), len := lB j + v, st := 7 } := ⟨_, rfl⟩
  rw [← hs2] at e2
  have a2 : s2.all = s.all ∧ s2.rem = s.rem ∧ s2.st = 7 ∧ s2.lt = fixL ∧ s2.ds = fixD ∧ s2.last = false ∧ s2.x = hiB (i : Int) 5 ++ (ofN u (dE i) ++ ([0, 0, 0, 0, 0, 0, 0] ++ y)) ∧ s2.len = lB j + v := by rw [hs2]; exact ⟨b1, b2, rfl, b4, b5, b6, rfl, rfl⟩
  clear hs2 b1 b2 b3 b4 b5 b6 b7 nx dx nv
  obtain ⟨b1, b2, b3, b4, b5, b6, b7, b8⟩ := a2
  have nx : nextOf s2.ds s2.x = ((i : Int), 5, 0) := by rw [b5, b7]; exact next_at (dist_next i hi) _
  have dx : s2.x.drop 5 = ofN u (dE i) ++ ([0, 0, 0, 0, 0, 0, 0] ++ y) := by rw [b7]; exact drop_len (hiB_length _ _)
  have nv : num (ofN u (dE i) ++ ([0, 0, 0, 0, 0, 0, 0] ++ y)) (dE i) = u := by
    rw [num_is (ofN_length _ _), numI_ofN, Int.emod_eq_of_lt (by omega) (by exact_mod_cast hu)]
    rfl
  have ei : ((i : Int)).toNat = i := by omega
  have e3 : s2.step = ({ s2 with x := [0, 0, 0, 0, 0, 0, 0] ++ y, st := 6, toks := s2.toks ++ [Tok.mk 0 s2.len ((dB i + u : Nat))], all := s.all ++ again s.all (dB i + u) (lB j + v), rem := s.rem - (lB j + v) }, 0) := by
    unfold IS.step
    rw [if_neg (by omega), if_neg (by omega), if_neg (by omega), if_neg (by omega), if_neg (by omega), if_neg (by omega), if_neg (by omega), if_pos b3]
    unfold IS.dist
    rw [nx]
    simp only
    rw [if_neg (by decide), if_neg (by omega), dx, ei, if_neg (by rw [List.length_append, ofN_length]; omega), nv, drop_len (ofN_length _ _)]
    unfold IS.text
    rw [if_neg (by rw [b1]; omega)]
    unfold IS.emit
    simp only
    rw [b1, b2, b8, again_length, if_neg (by omega), List.take_of_length_le (by rw [again_length]; exact hN)]
  obtain ⟨s3, hs3⟩ : ∃ s3 : IS, s3 = { s2 with x := [0, 0, 0, 0, 0, 0, 0] ++ y, st := 6, toks := s2.toks ++ [Tok.mk 0 s2.len ((dB i + u : Nat))], all := s.all ++ again s.all (dB i + u) (lB j + v), rem := s.rem - (lB j + v) } := ⟨_, rfl⟩
  rw [← hs3] at e3
  have a3 : s3.all = s.all ++ again s.all (dB i + u) (lB j + v) ∧ s3.rem = s.rem - (lB j + v) ∧ s3.st = 6 ∧ s3.lt = fixL ∧ s3.last = false ∧ s3.x = [0, 0, 0, 0, 0, 0, 0] ++ y := by rw [hs3]; exact ⟨rfl, rfl, rfl, b4, b6, rfl⟩
  clear hs3 b1 b2 b3 b4 b5 b6 b7 b8 nx dx nv
  obtain ⟨b1, b2, b3, b4, b6, b7⟩ := a3
  have nx : nextOf s3.lt s3.x = (256, 7, 0) := by rw [b4, b7]; exact next_at end_next _
  have e4 : s3.step = (({ s3 with x := y } : IS).over, 0) := by
    unfold IS.step
    rw [if_neg (by omega), if_neg (by omega), if_neg (by omega), if_neg (by omega), if_neg (by omega), if_neg (by omega), if_pos b3]
    unfold IS.token
    rw [nx]
    simp only
    rw [if_neg (by decide), if_neg (by decide), if_pos trivial, b7]
    rfl
  have t1 := IS.Steps.one (s := s) (by rw [e1])
  rw [e1] at t1
  have t2 := t1.tail (by rw [e2])
  rw [e2] at t2
  have t3 := t2.tail (by rw [e3])
  rw [e3] at t3
  have t4 := t3.tail (by rw [e4])
  rw [e4] at t4
  refine ⟨_, t4, ?_⟩
  unfold IS.over
  simp only [b6, Bool.false_eq_true, if_false]
  exact ⟨trivial, trivial, b1, b2⟩
/-- all three of them -/
theorem join_law {a b p1 p2 : List Int} {i j v u M : Nat} (hj : j < 29) (hi : i < 30) (hv : v < 2 ^ lE j) (hu : u < 2 ^ dE i) (ha : ∀ x ∈ a, 0 ≤ x ∧ x < 256) (hb : ∀ x ∈ b, 0 ≤ x ∧ x < 256) (hla : a.length ≤ 65535) (hlb : b.length ≤ 65535) (hM : a.length + (lB j + v) + b.length ≤ M) (hD : dB i + u ≤ a.length) (hp1 : p1.length < 8) (hp2 : p2.length < 8)
    (y2 : List Int) (hy2 : y2 = [1, 0, 0] ++ (p2 ++ (ofN b.length 16 ++ ofN (65535 - b.length) 16 ++ (bts b ++ []))))
    (y1 : List Int) (hy1 : y1 = [0, 1, 0] ++ (lenC j ++ (ofN v (lE j) ++ (hiB (i : Int) 5 ++ (ofN u (dE i) ++ ([0, 0, 0, 0, 0, 0, 0] ++ y2)))))) (hbit : Bit y1) (hev : y1.length % 8 = 0) :
    ∃ t, (start ([0, 0, 0] ++ (p1 ++ (ofN a.length 16 ++ ofN (65535 - a.length) 16 ++ (bts a ++ y1)))) M).fin = (t, 8) ∧ t.all = a ++ again a (dB i + u) (lB j + v) ++ b ∧ t.x = [] := by
  obtain ⟨s0, hs0⟩ : ∃ s0, s0 = start ([0, 0, 0] ++ (p1 ++ (ofN a.length 16 ++ ofN (65535 - a.length) 16 ++ (bts a ++ y1)))) M := ⟨_, rfl⟩
  have h1 := stored_block (s := s0) (B := a) (pad := p1) (y := y1) (h := 0) (by rw [hs0]; rfl) (.inl rfl) (by rw [hs0]; rfl) hp1 hev hbit ha hla (by rw [hs0]; show a.length ≤ M; omega)
  obtain ⟨s1, hs1⟩ : ∃ s1, s1 = ({ s0 with last := decide ((0 : Int) = 1), kinds := s0.kinds ++ [0], left := 0, all := s0.all ++ a, rem := s0.rem - a.length, x := y1, st := 2 } : IS).over := ⟨_, rfl⟩
  rw [← hs1] at h1
  have b1 : s1.st = 0 ∧ s1.x = y1 ∧ s1.all = a ∧ s1.rem = M - a.length := by
    rw [hs1, hs0]; exact ⟨rfl, rfl, rfl, rfl⟩
  clear hs1
  obtain ⟨b1, b2, b3, b4⟩ := b1
  obtain ⟨s2, h2, c1, c2, c3, c4⟩ := text_block (s := s1) (y := y2) b1 hj hi hv hu (by rw [b2, hy1]) (by rw [b3]; exact hD) (by rw [b4]; omega)
  rw [b3] at c3
  have h3 := stored_block (s := s2) (B := b) (pad := p2) (y := []) (h := 1) c1 (.inr rfl) (by rw [c2, hy2]) hp2 rfl Bit.nil_ hb hlb (by rw [c4, b4]; omega)
  obtain ⟨s3, hs3⟩ : ∃ s3, s3 = ({ s2 with last := decide ((1 : Int) = 1), kinds := s2.kinds ++ [0], left := 0, all := s2.all ++ b, rem := s2.rem - b.length, x := [], st := 2 } : IS).over := ⟨_, rfl⟩
  rw [← hs3] at h3
  have d1 : s3.st = 8 ∧ s3.x = [] ∧ s3.all = a ++ again a (dB i + u) (lB j + v) ++ b := by
    rw [hs3]; exact ⟨rfl, rfl, by rw [← c3]; rfl⟩
  have hs := (h1.trans h2).trans h3
  rw [← hs0, ← hs.fin_eq]
  have e : s3.step = (s3, 8) := by
    unfold IS.step
    rw [d1.1]
    rfl
  exact ⟨s3, by rw [IS.fin_stop (by rw [e]; simp), e], d1.2.2, d1.2.1⟩
/-- the bits that the statement writes -/
def joinL (a b : List Int) (j v i u : Nat) : List Int := evn ([0, 0, 0] ++ [0, 0, 0, 0, 0] ++ ofN (a.length : Int) 16 ++ ofN (65535 - (a.length : Int)) 16 ++ bts a ++ [0, 1, 0] ++ (lenC j ++ ofN (v : Int) (lE j)) ++ (hiB (i : Int) 5 ++ ofN (u : Int) (dE i)) ++ [0, 0, 0, 0, 0, 0, 0] ++ [1, 0, 0]) ++ ofN (b.length : Int) 16 ++ ofN (65535 - (b.length : Int)) 16 ++ bts b
theorem Bit.hi (v : Int) (n : Nat) : Bit (hiB v n) := fun x hx => Bit.ofN _ _ x (List.mem_reverse.1 hx)
theorem Bit.lenC (j : Nat) : Bit (lenC j) := by unfold Go.Proofs.Ytckhkkjdibcclaa.lenC; split <;> exact Bit.hi _ _
theorem joinL_bit (a b : List Int) (j v i u : Nat) : Bit (joinL a b j v i u) := by
  have h3 : ∀ l : List Int, (l.all fun x => x == 0 || x == 1) = true → Bit l := fun l h x hx => by
    have := List.all_eq_true.1 h x hx
    simpa using this
  unfold joinL
  refine (((Bit.evn ?_).app (Bit.ofN _ _)).app (Bit.ofN _ _)).app (Bit.bts _)
  exact (((((((((h3 _ rfl).app (h3 _ rfl)).app (Bit.ofN _ _)).app (Bit.ofN _ _)).app (Bit.bts _)).app (h3 _ rfl)).app ((Bit.lenC _).app (Bit.ofN _ _))).app ((Bit.hi _ _).app (Bit.ofN _ _))).app (h3 _ rfl)).app (h3 _ rfl)
theorem joinL_even (a b : List Int) (j v i u : Nat) : (joinL a b j v i u).length % 8 = 0 := by
  unfold joinL
  rw [List.length_append, List.length_append, List.length_append, ofN_length, ofN_length, bts_length]
  have := evn_even ([0, 0, 0] ++ [0, 0, 0, 0, 0] ++ ofN (a.length : Int) 16 ++ ofN (65535 - (a.length : Int)) 16 ++ bts a ++ [0, 1, 0] ++ (lenC j ++ ofN (v : Int) (lE j)) ++ (hiB (i : Int) 5 ++ ofN (u : Int) (dE i)) ++ [0, 0, 0, 0, 0, 0, 0] ++ [1, 0, 0])
  omega
theorem join_all {a b : List Int} {i j v u M : Nat} (hj : j < 29) (hi : i < 30) (hv : v < 2 ^ lE j) (hu : u < 2 ^ dE i) (ha : ∀ x ∈ a, 0 ≤ x ∧ x < 256) (hb : ∀ x ∈ b, 0 ≤ x ∧ x < 256) (hla : a.length ≤ 65535) (hlb : b.length ≤ 65535) (hM : a.length + (lB j + v) + b.length ≤ M) (hD : dB i + u ≤ a.length) :
    ∃ t, (start (bts (byt (joinL a b j v i u))) M).fin = (t, 8) ∧ t.all = a ++ again a (dB i + u) (lB j + v) ++ b ∧ t.x = [] := by
  have hbit := joinL_bit a b j v i u
  have hev := joinL_even a b j v i u
  rw [even_bts hev hbit]
  obtain ⟨p, hp⟩ : ∃ p : List Int, p = List.replicate ((8 - ([0, 0, 0] ++ [0, 0, 0, 0, 0] ++ ofN (a.length : Int) 16 ++ ofN (65535 - (a.length : Int)) 16 ++ bts a ++ [0, 1, 0] ++ (lenC j ++ ofN (v : Int) (lE j)) ++ (hiB (i : Int) 5 ++ ofN (u : Int) (dE i)) ++ [0, 0, 0, 0, 0, 0, 0] ++ [1, 0, 0]).length % 8) % 8) 0 := ⟨_, rfl⟩
  have hp8 : p.length < 8 := by rw [hp, List.length_replicate]; omega
  have e : joinL a b j v i u = [0, 0, 0] ++ ([0, 0, 0, 0, 0] ++ (ofN (a.length : Int) 16 ++ ofN (65535 - (a.length : Int)) 16 ++ (bts a ++ ([0, 1, 0] ++ (lenC j ++ (ofN v (lE j) ++ (hiB (i : Int) 5 ++ (ofN u (dE i) ++ ([0, 0, 0, 0, 0, 0, 0] ++ ([1, 0, 0] ++ (p ++ (ofN (b.length : Int) 16 ++ ofN (65535 - (b.length : Int)) 16 ++ (bts b ++ []))))))))))))) := by
    unfold joinL evn
    rw [← hp]
    simp only [List.append_assoc, List.append_nil]
  rw [e] at hbit hev ⊢
  have hby : Bit ([0, 1, 0] ++ (lenC j ++ (ofN v (lE j) ++ (hiB (i : Int) 5 ++ (ofN u (dE i) ++ ([0, 0, 0, 0, 0, 0, 0] ++ ([1, 0, 0] ++ (p ++ (ofN (b.length : Int) 16 ++ ofN (65535 - (b.length : Int)) 16 ++ (bts b ++ [])))))))))) := fun x hx => hbit x (by
    refine List.mem_append_right _ (List.mem_append_right _ (List.mem_append_right _ (List.mem_append_right _ hx))))
  have hey : ([0, 1, 0] ++ (lenC j ++ (ofN (v : Int) (lE j) ++ (hiB (i : Int) 5 ++ (ofN (u : Int) (dE i) ++ ([0, 0, 0, 0, 0, 0, 0] ++ ([1, 0, 0] ++ (p ++ (ofN (b.length : Int) 16 ++ ofN (65535 - (b.length : Int)) 16 ++ (bts b ++ [])))))))))).length % 8 = 0 := by
    rw [List.length_append, List.length_append, List.length_append, List.length_append, List.length_append, ofN_length, ofN_length, bts_length] at hev
    have e1 : ([0, 0, 0] : List Int).length = 3 := rfl
    have e2 : ([0, 0, 0, 0, 0] : List Int).length = 5 := rfl
    rw [e1, e2] at hev
    omega
  exact join_law hj hi hv hu ha hb hla hlb hM hD (by decide) hp8 _ rfl _ rfl hby hey
end
end Go.Proofs.Ytckhkkjdibcclaa
