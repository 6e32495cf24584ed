/-
  Plain law: what holds of every state that the machine comes to.
-/
import Derived.Test.YtckhkkjdibcclaaInfQ
namespace Go.Proofs.Ytckhkkjdibcclaa
set_option linter.unusedVariables false
structure IS.Ok (s : IS) : Prop where
  bit : Bit s.x
  even : s.st = 1 ∨ s.st = 2 ∨ s.st = 8 → s.x.length % 8 = 0
  cc : s.st = 4 ∨ s.st = 5 → 257 ≤ s.c0 ∧ s.c0 ≤ 286 ∧ 1 ≤ s.c1 ∧ s.c1 ≤ 30
  h4 : s.st = 4 → s.c2 ≤ 19 ∧ s.lens.length ≤ s.c2 ∧ ∀ v ∈ s.lens, 0 ≤ v ∧ v ≤ 7
  h5 : s.st = 5 → s.lens.length ≤ s.c0 + s.c1 ∧ (∀ v ∈ s.lens, 0 ≤ v ∧ v ≤ 15) ∧ checkOf s.hd 7 = 0 ∧ s.hd.length = 19
  h6 : s.st = 6 ∨ s.st = 7 → checkOf s.lt 15 = 0 ∧ checkOf s.ds 15 = 0
  h7 : s.st = 7 → 3 ≤ s.len ∧ s.len ≤ 258
  left : s.left ≤ 65535
  by_ : ∀ v ∈ s.all, 0 ≤ v ∧ v < 256
  st8 : s.st ≤ 8
section
variable {s t : IS} {x y b : List Int} {n m : Nat}
theorem IS.Ok.at0 (hst : s.st = 0 ∨ s.st = 3) (bit : Bit s.x) (left : s.left ≤ 65535) (by_ : ∀ v ∈ s.all, 0 ≤ v ∧ v < 256) : s.Ok :=
  ⟨bit, fun h => by omega, fun h => by omega, fun h => by omega, fun h => by omega, fun h => by omega, fun h => by omega, left, by_, by omega⟩
theorem IS.Ok.at1 (hst : s.st = 1 ∨ s.st = 2 ∨ s.st = 8) (bit : Bit s.x) (left : s.left ≤ 65535) (by_ : ∀ v ∈ s.all, 0 ≤ v ∧ v < 256) (even : s.x.length % 8 = 0) : s.Ok :=
  ⟨bit, fun h => even, fun h => by omega, fun h => by omega, fun h => by omega, fun h => by omega, fun h => by omega, left, by_, by omega⟩
theorem IS.Ok.at4 (hst : s.st = 4) (bit : Bit s.x) (left : s.left ≤ 65535) (by_ : ∀ v ∈ s.all, 0 ≤ v ∧ v < 256) (cc : 257 ≤ s.c0 ∧ s.c0 ≤ 286 ∧ 1 ≤ s.c1 ∧ s.c1 ≤ 30)
    (h4 : s.c2 ≤ 19 ∧ s.lens.length ≤ s.c2 ∧ ∀ v ∈ s.lens, 0 ≤ v ∧ v ≤ 7) : s.Ok :=
  ⟨bit, fun h => by omega, fun h => cc, fun h => h4, fun h => by omega, fun h => by omega, fun h => by omega, left, by_, by omega⟩
theorem IS.Ok.at5 (hst : s.st = 5) (bit : Bit s.x) (left : s.left ≤ 65535) (by_ : ∀ v ∈ s.all, 0 ≤ v ∧ v < 256) (cc : 257 ≤ s.c0 ∧ s.c0 ≤ 286 ∧ 1 ≤ s.c1 ∧ s.c1 ≤ 30)
    (h5 : s.lens.length ≤ s.c0 + s.c1 ∧ (∀ v ∈ s.lens, 0 ≤ v ∧ v ≤ 15) ∧ checkOf s.hd 7 = 0 ∧ s.hd.length = 19) : s.Ok :=
  ⟨bit, fun h => by omega, fun h => cc, fun h => by omega, fun h => h5, fun h => by omega, fun h => by omega, left, by_, by omega⟩
theorem IS.Ok.at6 (hst : s.st = 6 ∨ s.st = 7) (bit : Bit s.x) (left : s.left ≤ 65535) (by_ : ∀ v ∈ s.all, 0 ≤ v ∧ v < 256) (h6 : checkOf s.lt 15 = 0 ∧ checkOf s.ds 15 = 0)
    (h7 : s.st = 7 → 3 ≤ s.len ∧ s.len ≤ 258) : s.Ok :=
  ⟨bit, fun h => by omega, fun h => by omega, fun h => by omega, fun h => by omega, fun h => h6, h7, left, by_, by omega⟩
theorem num_lt {x : List Int} (h : Bit x) (n : Nat) : num x n < 2 ^ n := by
  have h1 := numI_bd (h.take_ n)
  have h2 := pow_mono2 (show (x.take n).length ≤ n by simp; omega)
  have h3 : ((2 ^ n : Nat) : Int) = 2 ^ n := by simp
  unfold num
  omega
theorem num_int {x : List Int} (h : Bit x) (n : Nat) : ((num x n : Nat) : Int) = numI (x.take n) := by
  have h1 := numI_bd (h.take_ n)
  unfold num
  omega
theorem Bit.algn {x : List Int} (h : Bit x) : Bit (algn x) := h.drop_ _
theorem hAll_length (l : List Int) : (hAll l).length = 19 := by simp [hAll]
theorem fix_ok : checkOf fixL 15 = 0 ∧ checkOf fixD 15 = 0 := by decide +kernel
theorem lB_sum {j v : Nat} (hj : j < 29) (hv : v < 2 ^ lE j) : 3 ≤ lB j + v ∧ lB j + v ≤ 258 := by
  have : ∀ j, j < 29 → 3 ≤ lB j ∧ lB j + 2 ^ lE j ≤ 259 := by decide +kernel
  have := this j hj
  omega
theorem dB_sum {j v : Nat} (hj : j < 30) (hv : v < 2 ^ dE j) : 1 ≤ dB j + v ∧ dB j + v ≤ 32768 := by
  have : ∀ j, j < 30 → 1 ≤ dB j ∧ dB j + 2 ^ dE j ≤ 32769 := by decide +kernel
  have := this j hj
  omega
theorem IS.Ok.over (h : s.Ok) : s.over.Ok := by
  unfold IS.over
  split
  · exact .at1 (.inr (.inr rfl)) h.bit.algn h.left h.by_ (by show (algn s.x).length % 8 = 0; rw [algn_length]; omega)
  · exact .at0 (.inl rfl) h.bit h.left h.by_
/-- bytes that come out leave all else as it is -/
theorem IS.Ok.emit (h : s.Ok) {b : List Int} (hb : ∀ v ∈ b, 0 ≤ v ∧ v < 256) : (s.emit b).1.Ok :=
  ⟨h.bit, h.even, h.cc, h.h4, h.h5, h.h6, h.h7, h.left, fun v hv => by
    rcases List.mem_append.1 hv with h1 | h1
    · exact h.by_ v h1
    · exact hb v (List.mem_of_mem_take h1), h.st8⟩
/-- a symbol that is read -/
theorem sym_read {l x : List Int} (hb : Bit x) (h : ¬ (nextOf l x).2.2 ≠ 0) : ∃ k n : Nat, nextOf l x = ((k : Int), n, 0) ∧ k < l.length ∧ 1 ≤ n ∧ n ≤ 15 ∧ n ≤ x.length := by
  obtain ⟨k, n, h1, h2, h3, h4, h5, h6, h7⟩ := next_sym hb (Decidable.not_not.1 h)
  exact ⟨k, n, h1, h2, h4, h5, h6⟩
theorem again_by {l : List Int} (h : ∀ v ∈ l, 0 ≤ v ∧ v < 256) (D N : Nat) : ∀ v ∈ again l D N, 0 ≤ v ∧ v < 256 := by
  intro v hv
  unfold again at hv
  obtain ⟨i, _, rfl⟩ := List.mem_map.1 hv
  exact ix_bd h _
set_option maxHeartbeats 1000000 in
theorem IS.Ok.step (h : s.Ok) (e : s.step.2 = 0 ∨ s.step.2 = 6) : s.step.1.Ok := by
  unfold IS.step at e ⊢
  by_cases h0 : s.st = 0
  · rw [if_pos h0] at e ⊢
    unfold IS.block at e ⊢
    by_cases hx : s.x.length < 3
    · rw [if_pos hx] at e; simp at e
    rw [if_neg hx] at e ⊢
    by_cases h1 : num s.x 3 / 2 = 0
    · rw [if_pos h1]
      exact .at1 (.inl rfl) (h.bit.drop_ 3).algn h.left h.by_ (by show (algn (s.x.drop 3)).length % 8 = 0; rw [algn_length]; omega)
    rw [if_neg h1] at e ⊢
    by_cases h2 : num s.x 3 / 2 = 1
    · rw [if_pos h2]
      exact .at6 (.inl rfl) (h.bit.drop_ 3) h.left h.by_ fix_ok (fun e => by simp at e)
    rw [if_neg h2] at e ⊢
    by_cases h3 : num s.x 3 / 2 = 2
    · rw [if_pos h3]
      exact .at0 (.inr rfl) (h.bit.drop_ 3) h.left h.by_
    · rw [if_neg h3] at e; simp at e
  rw [if_neg h0] at e ⊢
  by_cases h1 : s.st = 1
  · rw [if_pos h1] at e ⊢
    unfold IS.size at e ⊢
    by_cases hx : s.x.length < 32
    · rw [if_pos hx] at e; simp at e
    rw [if_neg hx] at e ⊢
    by_cases h2 : num s.x 32 % 65536 + num s.x 32 / 65536 = 65535
    · rw [if_pos h2]
      exact .at1 (.inr (.inl rfl)) (h.bit.drop_ 32) (by show num s.x 32 % 65536 ≤ 65535; omega) h.by_ (by have := h.even (.inl h1); show (s.x.drop 32).length % 8 = 0; rw [List.length_drop]; omega)
    · rw [if_neg h2] at e; simp at e
  rw [if_neg h1] at e ⊢
  by_cases h2 : s.st = 2
  · rw [if_pos h2] at e ⊢
    unfold IS.stored at e ⊢
    by_cases hl : s.left = 0
    · rw [if_pos hl]; exact h.over
    rw [if_neg hl] at e ⊢
    by_cases hx : s.x.length < 8
    · rw [if_pos hx] at e; simp at e
    rw [if_neg hx]
    refine IS.Ok.emit (s := { s with x := s.x.drop 8, left := s.left - 1 }) (.at1 (.inr (.inl h2)) (h.bit.drop_ 8) (by have := h.left; show s.left - 1 ≤ 65535; omega) h.by_ (by have := h.even (.inr (.inl h2)); show (s.x.drop 8).length % 8 = 0; rw [List.length_drop]; omega)) ?_
    intro v hv
    simp at hv
    subst hv
    have := num_lt h.bit 8
    omega
  rw [if_neg h2] at e ⊢
  by_cases h3 : s.st = 3
  · rw [if_pos h3] at e ⊢
    unfold IS.sizes at e ⊢
    by_cases hx : s.x.length < 14
    · rw [if_pos hx] at e; simp at e
    rw [if_neg hx] at e ⊢
    by_cases h4 : 286 < num s.x 14 % 32 + 257 ∨ 30 < num s.x 14 / 32 % 32 + 1
    · rw [if_pos h4] at e; simp at e
    rw [if_neg h4]
    have hn := num_lt h.bit 14
    refine .at4 rfl (h.bit.drop_ 14) h.left h.by_ ?_ ?_
    · show 257 ≤ num s.x 14 % 32 + 257 ∧ num s.x 14 % 32 + 257 ≤ 286 ∧ 1 ≤ num s.x 14 / 32 % 32 + 1 ∧ num s.x 14 / 32 % 32 + 1 ≤ 30
      omega
    · refine ⟨?_, Nat.zero_le _, fun v hv => by simp at hv⟩
      show num s.x 14 / 1024 + 4 ≤ 19
      omega
  rw [if_neg h3] at e ⊢
  by_cases h4 : s.st = 4
  · rw [if_pos h4] at e ⊢
    unfold IS.heads at e ⊢
    obtain ⟨q1, q2, q3⟩ := h.h4 h4
    have hcc := h.cc (.inl h4)
    by_cases hc : s.lens.length < s.c2
    · rw [if_pos hc] at e ⊢
      by_cases hx : s.x.length < 3
      · rw [if_pos hx] at e; simp at e
      rw [if_neg hx]
      refine .at4 h4 (h.bit.drop_ 3) h.left h.by_ hcc ⟨q1, ?_, ?_⟩
      · show (s.lens ++ [_]).length ≤ s.c2
        simp; omega
      · intro v hv
        rcases List.mem_append.1 hv with h1 | h1
        · exact q3 v h1
        · simp at h1; subst h1
          have := num_lt h.bit 3
          omega
    rw [if_neg hc] at e ⊢
    by_cases h5 : checkOf (hAll s.lens) 7 ≠ 0 ∨ noneB s.lens = true
    · rw [if_pos h5] at e; simp at e
    rw [if_neg h5]
    exact .at5 rfl h.bit h.left h.by_ hcc ⟨Nat.zero_le _, fun v hv => by simp at hv, Decidable.not_not.1 fun h6 => h5 (.inl h6), hAll_length _⟩
  rw [if_neg h4] at e ⊢
  by_cases h5 : s.st = 5
  · rw [if_pos h5] at e ⊢
    unfold IS.lengths at e ⊢
    obtain ⟨q1, q2, q3, q4⟩ := h.h5 h5
    have hcc := h.cc (.inr h5)
    by_cases hc : s.lens.length < s.c0 + s.c1
    · rw [if_pos hc] at e ⊢
      unfold IS.length at e ⊢
      by_cases e1 : (nextOf s.hd s.x).2.2 ≠ 0
      · rw [if_pos e1] at e
        rcases nextOf_err s.hd s.x with h6 | h6 | h6 <;> omega
      rw [if_neg e1] at e ⊢
      obtain ⟨k, n, hk, hk1, hn1, hn2, hn3⟩ := sym_read h.bit e1
      rw [hk] at e ⊢
      simp only at e ⊢
      by_cases h6 : (k : Int) < 16
      · rw [if_pos h6]
        refine .at5 h5 (h.bit.drop_ _) h.left h.by_ hcc ⟨?_, ?_, q3, q4⟩
        · show (s.lens ++ [_]).length ≤ s.c0 + s.c1
          simp; omega
        · intro v hv
          rcases List.mem_append.1 hv with h1 | h1
          · exact q2 v h1
          · simp at h1; subst h1; omega
      rw [if_neg h6] at e ⊢
      by_cases h7 : (k : Int) = 16 ∧ s.lens.length = 0
      · rw [if_pos h7] at e; simp at e
      rw [if_neg h7] at e ⊢
      by_cases h8 : (s.x.drop n).length < IS.rW k
      · rw [if_pos h8] at e; simp at e
      rw [if_neg h8] at e ⊢
      unfold IS.repeat_ at e ⊢
      by_cases h9 : s.c0 + s.c1 < s.lens.length + (IS.rB k + num (s.x.drop n) (IS.rW k))
      · rw [if_pos h9] at e; simp at e
      rw [if_neg h9]
      refine .at5 h5 ((h.bit.drop_ _).drop_ _) h.left h.by_ hcc ⟨?_, ?_, q3, q4⟩
      · show (s.lens ++ List.replicate _ _).length ≤ s.c0 + s.c1
        rw [List.length_append, List.length_replicate]; omega
      · intro v hv
        rcases List.mem_append.1 hv with h1 | h1
        · exact q2 v h1
        · rw [List.eq_of_mem_replicate h1]
          split
          · rename_i h10
            unfold ix
            have hp : s.lens.length ≠ 0 := fun e0 => h7 ⟨h10, e0⟩
            rw [List.getD_eq_getElem?_getD, List.getElem?_eq_getElem (show s.lens.length - 1 < s.lens.length by omega)]
            exact q2 _ (List.getElem_mem _)
          · omega
    rw [if_neg hc] at e ⊢
    by_cases h6 : checkOf (s.lens.take s.c0) 15 ≠ 0 ∨ checkOf (s.lens.drop s.c0) 15 ≠ 0 ∨ ix s.lens 256 = 0
    · rw [if_pos h6] at e; simp at e
    rw [if_neg h6]
    exact .at6 (.inl rfl) h.bit h.left h.by_ ⟨Decidable.not_not.1 fun h7 => h6 (.inl h7), Decidable.not_not.1 fun h7 => h6 (.inr (.inl h7))⟩ (fun e => by simp at e)
  rw [if_neg h5] at e ⊢
  by_cases h6 : s.st = 6
  · rw [if_pos h6] at e ⊢
    unfold IS.token at e ⊢
    have hh := h.h6 (.inl h6)
    by_cases e1 : (nextOf s.lt s.x).2.2 ≠ 0
    · rw [if_pos e1] at e
      rcases nextOf_err s.lt s.x with h6 | h6 | h6 <;> omega
    rw [if_neg e1] at e ⊢
    obtain ⟨k, n, hk, hk1, hn1, hn2, hn3⟩ := sym_read h.bit e1
    rw [hk] at e ⊢
    simp only at e ⊢
    by_cases h7 : (k : Int) < 256
    · rw [if_pos h7]
      refine IS.Ok.emit (s := { s with x := s.x.drop n, toks := s.toks ++ [Tok.mk (k : Int) 0 0] }) (.at6 (.inl h6) (h.bit.drop_ _) h.left h.by_ hh (fun e => by simp [h6] at e)) ?_
      intro v hv
      simp at hv; subst hv; omega
    rw [if_neg h7] at e ⊢
    by_cases h8 : (k : Int) = 256
    · rw [if_pos h8]
      exact IS.Ok.over (s := { s with x := s.x.drop n }) (.at6 (.inl h6) (h.bit.drop_ _) h.left h.by_ hh (fun e => by simp [h6] at e))
    rw [if_neg h8] at e ⊢
    by_cases h9 : 285 < (k : Int)
    · rw [if_pos h9] at e; simp at e
    rw [if_neg h9] at e ⊢
    obtain ⟨j, hj⟩ : ∃ j, ((k : Int) - 257).toNat = j := ⟨_, rfl⟩
    rw [hj] at e ⊢
    by_cases h10 : (s.x.drop n).length < lE j
    · rw [if_pos h10] at e; simp at e
    rw [if_neg h10]
    exact .at6 (.inr rfl) ((h.bit.drop_ _).drop_ _) h.left h.by_ hh (fun _ => lB_sum (by omega) (num_lt (h.bit.drop_ _) _))
  rw [if_neg h6] at e ⊢
  by_cases h7 : s.st = 7
  · rw [if_pos h7] at e ⊢
    unfold IS.dist at e ⊢
    have hh := h.h6 (.inr h7)
    by_cases e1 : (nextOf s.ds s.x).2.2 ≠ 0
    · rw [if_pos e1] at e
      rcases nextOf_err s.ds s.x with h6 | h6 | h6 <;> omega
    rw [if_neg e1] at e ⊢
    obtain ⟨k, n, hk, hk1, hn1, hn2, hn3⟩ := sym_read h.bit e1
    rw [hk] at e ⊢
    simp only at e ⊢
    by_cases h8 : 29 < (k : Int)
    · rw [if_pos h8] at e; simp at e
    rw [if_neg h8] at e ⊢
    by_cases h10 : (s.x.drop n).length < dE (k : Int).toNat
    · rw [if_pos h10] at e; simp at e
    rw [if_neg h10] at e ⊢
    unfold IS.text at e ⊢
    have hb2 : Bit ((s.x.drop n).drop (dE (k : Int).toNat)) := (h.bit.drop_ _).drop_ _
    generalize (s.x.drop n).drop (dE (k : Int).toNat) = x1 at e hb2 ⊢
    generalize dB (k : Int).toNat + num (s.x.drop n) (dE (k : Int).toNat) = D at e ⊢
    by_cases h11 : s.all.length < D
    · rw [if_pos h11] at e; simp at e
    rw [if_neg h11]
    exact IS.Ok.emit (s := { s with x := x1, st := 6, toks := s.toks ++ [Tok.mk 0 s.len D] }) (.at6 (.inl rfl) hb2 h.left h.by_ hh (fun e => by simp at e)) (again_by h.by_ _ _)
  · rw [if_neg h7] at e; simp at e
theorem IS.Ok.steps (h : s.Ok) (hs : IS.Steps s t) : t.Ok := by
  induction hs with
  | refl => exact h
  | tail _ h2 ih => exact ih.step (.inl h2)
theorem IS.Ok.start {x : List Int} (h : Bit x) (m : Nat) : (start x m).Ok := .at0 (.inl rfl) h (Nat.zero_le _) (fun v hv => by simp [Go.Proofs.Ytckhkkjdibcclaa.start] at hv)
/-- the machine ends with 8 only where it stands at 8 -/
theorem IS.step_done (h : s.step.2 = 8) : s.step.1 = s ∧ s.st ≠ 0 ∧ s.st ≠ 1 ∧ s.st ≠ 2 ∧ s.st ≠ 3 ∧ s.st ≠ 4 ∧ s.st ≠ 5 ∧ s.st ≠ 6 ∧ s.st ≠ 7 := by
  unfold IS.step at h ⊢
  have hem : ∀ (s : IS) b, (s.emit b).2 ≠ 8 := fun s b => by unfold IS.emit; simp only; split <;> decide
  by_cases h0 : s.st = 0
  · rw [if_pos h0] at h; unfold IS.block at h; exfalso; revert h; repeat' split
    all_goals simp
  rw [if_neg h0] at h ⊢
  by_cases h1 : s.st = 1
  · rw [if_pos h1] at h; unfold IS.size at h; exfalso; revert h; repeat' split
    all_goals simp
  rw [if_neg h1] at h ⊢
  by_cases h2 : s.st = 2
  · rw [if_pos h2] at h; unfold IS.stored at h; exfalso; revert h; repeat' split
    · simp
    · simp
    · exact hem _ _
  rw [if_neg h2] at h ⊢
  by_cases h3 : s.st = 3
  · rw [if_pos h3] at h; unfold IS.sizes at h; exfalso; revert h; repeat' split
    all_goals simp
  rw [if_neg h3] at h ⊢
  by_cases h4 : s.st = 4
  · rw [if_pos h4] at h; unfold IS.heads at h; exfalso; revert h; repeat' split
    all_goals simp
  rw [if_neg h4] at h ⊢
  by_cases h5 : s.st = 5
  · rw [if_pos h5] at h; unfold IS.lengths IS.length IS.repeat_ at h; exfalso
    have := nextOf_err s.hd s.x
    revert h; repeat' split
    all_goals (intro h; simp at h <;> omega)
  rw [if_neg h5] at h ⊢
  by_cases h6 : s.st = 6
  · rw [if_pos h6] at h; unfold IS.token at h; exfalso
    have := nextOf_err s.lt s.x
    revert h; repeat' split
    all_goals first
      | exact hem _ _
      | (intro h; simp at h <;> omega)
  rw [if_neg h6] at h ⊢
  by_cases h7 : s.st = 7
  · rw [if_pos h7] at h; unfold IS.dist IS.text at h; exfalso
    have := nextOf_err s.ds s.x
    revert h; repeat' split
    all_goals first
      | exact hem _ _
      | (intro h; simp at h <;> omega)
  rw [if_neg h7]
  exact ⟨rfl, h0, h1, h2, h3, h4, h5, h6, h7⟩
end
end Go.Proofs.Ytckhkkjdibcclaa
