/-
  Several texts in one (written by pack2.py): LimP, LimQ, CostP, HasP.
-/
import Derived.Test.YtlgkiookobedcaaPk1
namespace Go.Proofs.Ytlgkiookobedcaa
set_option linter.unusedVariables false
structure Pk where
  w : Int
  l : List Int
def pairsP : List Pk → List Pk
  | a :: b :: r => ⟨a.w + b.w, a.l ++ b.l⟩ :: pairsP r
  | _ => []
def mrg : List Pk → List Pk → List Pk
  | [], bs => bs
  | a :: as, [] => a :: as
  | a :: as, b :: bs => if b.w < a.w then b :: mrg (a :: as) bs else a :: mrg as (b :: bs)
termination_by as bs => as.length + bs.length
def lev (F : List Pk) : Nat → List Pk
  | 0 => F
  | k + 1 => mrg F (pairsP (lev F k))
def wtP (l : List Pk) : Int := (l.map Pk.w).sum
def flP (l : List Pk) : List Int := l.flatMap Pk.l
def Srt (l : List Pk) : Prop := l.Pairwise fun p q => p.w ≤ q.w
section
variable {a b l F : List Pk} {p q e : Pk} {k j x n m : Nat}
theorem mrg_nil (a : List Pk) : mrg a [] = a := by cases a <;> simp [mrg]
theorem nil_mrg (a : List Pk) : mrg [] a = a := by simp [mrg]
theorem mrg_perm (a b : List Pk) : (mrg a b).Perm (a ++ b) := by
  induction a generalizing b with
  | nil => rw [nil_mrg]; exact List.Perm.refl _
  | cons p as iha =>
    induction b with
    | nil => rw [mrg_nil, List.append_nil]
    | cons q bs ihb =>
      rw [mrg]
      split
      · exact (List.Perm.cons q ihb).trans List.perm_middle.symm
      · exact List.Perm.cons p (iha (q :: bs))
theorem mrg_length (a b : List Pk) : (mrg a b).length = a.length + b.length := by rw [(mrg_perm a b).length_eq, List.length_append]
theorem mrg_sorted (ha : Srt a) (hb : Srt b) : Srt (mrg a b) := by
  induction a generalizing b with
  | nil => rw [nil_mrg]; exact hb
  | cons p as iha =>
    induction b with
    | nil => rw [mrg_nil]; exact ha
    | cons q bs ihb =>
      have h1 := List.pairwise_cons.1 ha
      have h2 := List.pairwise_cons.1 hb
      rw [mrg]
      split <;> rename_i hw
      · refine List.pairwise_cons.2 ⟨fun r hr => ?_, ihb h2.2⟩
        rcases List.mem_append.1 ((mrg_perm _ _).mem_iff.1 hr) with h | h
        · rcases List.mem_cons.1 h with rfl | h
          · omega
          · have := h1.1 r h; omega
        · exact h2.1 r h
      · refine List.pairwise_cons.2 ⟨fun r hr => ?_, iha h1.2 hb⟩
        rcases List.mem_append.1 ((mrg_perm _ _).mem_iff.1 hr) with h | h
        · exact h1.1 r h
        · rcases List.mem_cons.1 h with rfl | h
          · omega
          · have := h2.1 r h; omega
theorem mrg_split (ha : Srt a) (hb : Srt b) (hx : x ≤ a.length + b.length) :
    ∃ a1 a2 b1 b2, a = a1 ++ a2 ∧ b = b1 ++ b2 ∧ a1.length + b1.length = x ∧ ((mrg a b).take x).Perm (a1 ++ b1) ∧ (∀ p ∈ b1, ∀ q ∈ a2, p.w < q.w) ∧ (∀ p ∈ a1, ∀ q ∈ b2, p.w ≤ q.w) := by
  induction x generalizing a b with
  | zero => exact ⟨[], a, [], b, rfl, rfl, rfl, by simp, by simp, by simp⟩
  | succ x ih =>
    cases a with
    | nil =>
      refine ⟨[], [], b.take (x + 1), b.drop (x + 1), rfl, (List.take_append_drop ..).symm, ?_, by rw [nil_mrg]; simp, by simp, by simp⟩
      simp only [List.length_nil, List.length_take] at hx ⊢
      omega
    | cons p as =>
      cases b with
      | nil =>
        refine ⟨(p :: as).take (x + 1), (p :: as).drop (x + 1), [], [], (List.take_append_drop ..).symm, rfl, ?_, by rw [mrg_nil]; simp, by simp, by simp⟩
        simp only [List.length_nil, List.length_take] at hx ⊢
        omega
      | cons q bs =>
        have h1 := List.pairwise_cons.1 ha
        have h2 := List.pairwise_cons.1 hb
        rw [mrg]
        split <;> rename_i hw
        · obtain ⟨a1, a2, b1, b2, e1, e2, e3, e4, e5, e6⟩ := ih (a := p :: as) (b := bs) ha h2.2 (by simp only [List.length_cons] at hx ⊢; omega)
          refine ⟨a1, a2, q :: b1, b2, e1, by rw [e2]; rfl, by simp only [List.length_cons]; omega, ?_, fun r hr s hs => ?_, e6⟩
          · rw [List.take_succ_cons]
            exact (List.Perm.cons q e4).trans List.perm_middle.symm
          · rcases List.mem_cons.1 hr with rfl | hr
            · have hm : s ∈ p :: as := by rw [e1]; exact List.mem_append_right _ hs
              rcases List.mem_cons.1 hm with rfl | hm
              · exact hw
              · have := h1.1 s hm; omega
            · exact e5 r hr s hs
        · obtain ⟨a1, a2, b1, b2, e1, e2, e3, e4, e5, e6⟩ := ih (a := as) (b := q :: bs) h1.2 hb (by simp only [List.length_cons] at hx ⊢; omega)
          refine ⟨p :: a1, a2, b1, b2, by rw [e1]; rfl, e2, by simp only [List.length_cons]; omega, ?_, e5, fun r hr s hs => ?_⟩
          · rw [List.take_succ_cons]
            exact List.Perm.cons p e4
          · rcases List.mem_cons.1 hr with rfl | hr
            · have hm : s ∈ q :: bs := by rw [e2]; exact List.mem_append_right _ hs
              rcases List.mem_cons.1 hm with rfl | hm
              · omega
              · have := h2.1 s hm; omega
            · exact e6 r hr s hs
theorem wtP_cons (p : Pk) (l : List Pk) : wtP (p :: l) = p.w + wtP l := by simp [wtP]
theorem wtP_append (a b : List Pk) : wtP (a ++ b) = wtP a + wtP b := by simp [wtP]
theorem wtP_perm (h : a.Perm b) : wtP a = wtP b := by
  induction h with
  | nil => rfl
  | cons x _ ih => rw [wtP_cons, wtP_cons, ih]
  | swap x y l => rw [wtP_cons, wtP_cons, wtP_cons, wtP_cons]; omega
  | trans _ _ h1 h2 => exact h1.trans h2
theorem flP_append (a b : List Pk) : flP (a ++ b) = flP a ++ flP b := by simp [flP]
theorem flP_cons (p : Pk) (l : List Pk) : flP (p :: l) = p.l ++ flP l := by simp [flP]
theorem flP_perm (h : a.Perm b) : (flP a).Perm (flP b) := List.Perm.flatMap_right _ h
theorem wtP_nonneg (h : ∀ p ∈ l, 0 ≤ p.w) : 0 ≤ wtP l := by
  induction l with
  | nil => exact Int.le_refl _
  | cons p l ih =>
    rw [wtP_cons]
    have := h p List.mem_cons_self
    have := ih fun q hq => h q (List.mem_cons_of_mem _ hq)
    omega
theorem wtP_le (hl : a.length = b.length) (h : ∀ p ∈ a, ∀ q ∈ b, p.w ≤ q.w) : wtP a ≤ wtP b := by
  induction a generalizing b with
  | nil =>
    cases b with
    | nil => exact Int.le_refl _
    | cons q b => simp at hl
  | cons p a ih =>
    cases b with
    | nil => simp at hl
    | cons q b =>
      rw [wtP_cons, wtP_cons]
      have h1 := h p List.mem_cons_self q List.mem_cons_self
      have h2 := ih (b := b) (by simpa using hl) fun r hr s hs => h r (List.mem_cons_of_mem _ hr) s (List.mem_cons_of_mem _ hs)
      omega
theorem mrg_least {i j : Nat} (ha : Srt a) (hb : Srt b) (hi : i ≤ a.length) (hj : j ≤ b.length) : wtP ((mrg a b).take (i + j)) ≤ wtP (a.take i) + wtP (b.take j) := by
  obtain ⟨a1, a2, b1, b2, e1, e2, e3, e4, e5, e6⟩ := mrg_split ha hb (x := i + j) (by omega)
  rw [wtP_perm e4, wtP_append]
  rcases Nat.le_total a1.length i with h | h
  ·
    have f1 : a.take i = a1 ++ a2.take (i - a1.length) := by rw [e1, List.take_append, List.take_of_length_le h]
    have f2 : b1 = b.take j ++ b1.drop j := by
      have : b.take j = b1.take j := by rw [e2, List.take_append_of_le_length (by omega)]
      rw [this, List.take_append_drop]
    have hla : a2.length = a.length - a1.length := by rw [e1, List.length_append]; omega
    have hle : wtP (b1.drop j) ≤ wtP (a2.take (i - a1.length)) := wtP_le (by rw [List.length_drop, List.length_take]; omega) fun p hp q hq => Int.le_of_lt (e5 p (List.mem_of_mem_drop hp) q (List.mem_of_mem_take hq))
    rw [f1, wtP_append]
    have : wtP b1 = wtP (b.take j) + wtP (b1.drop j) := by rw [← wtP_append, ← f2]
    omega
  · have f1 : b.take j = b1 ++ b2.take (j - b1.length) := by rw [e2, List.take_append, List.take_of_length_le (by omega)]
    have f2 : a1 = a.take i ++ a1.drop i := by
      have : a.take i = a1.take i := by rw [e1, List.take_append_of_le_length h]
      rw [this, List.take_append_drop]
    have hlb : b2.length = b.length - b1.length := by rw [e2, List.length_append]; omega
    have hle : wtP (a1.drop i) ≤ wtP (b2.take (j - b1.length)) := wtP_le (by rw [List.length_drop, List.length_take]; omega) fun p hp q hq => e6 p (List.mem_of_mem_drop hp) q (List.mem_of_mem_take hq)
    rw [f1, wtP_append]
    have : wtP a1 = wtP (a.take i) + wtP (a1.drop i) := by rw [← wtP_append, ← f2]
    omega
theorem pairs_length (l : List Pk) : (pairsP l).length = l.length / 2 := by
  induction l using pairsP.induct with
  | case1 a b r ih => rw [pairsP, List.length_cons, ih]; simp only [List.length_cons]; omega
  | case2 t h =>
    match t, h with
    | [], _ => rfl
    | [a], _ => simp [pairsP]
    | a :: b :: r, h => exact absurd rfl (h a b r)
theorem pairs_take (l : List Pk) (j : Nat) : (pairsP l).take j = pairsP (l.take (2 * j)) := by
  induction l using pairsP.induct generalizing j with
  | case1 a b r ih =>
    cases j with
    | zero => simp [pairsP]
    | succ j => rw [pairsP, List.take_succ_cons, ih j, show 2 * (j + 1) = 2 * j + 1 + 1 by omega, List.take_succ_cons, List.take_succ_cons, pairsP]
  | case2 t h =>
    match t, h with
    | [], _ => simp [pairsP]
    | [a], _ =>
      cases j with
      | zero => simp [pairsP]
      | succ j => rw [show 2 * (j + 1) = 2 * j + 1 + 1 by omega]; simp [pairsP]
    | a :: b :: r, h => exact absurd rfl (h a b r)
theorem pairs_even (l : List Pk) (h : l.length % 2 = 0) : flP (pairsP l) = flP l ∧ wtP (pairsP l) = wtP l ∧ ((∀ e ∈ l, 0 ≤ e.w) → ∀ e ∈ l, ∃ p ∈ pairsP l, e.w ≤ p.w) := by
  induction l using pairsP.induct with
  | case1 a b r ih =>
    obtain ⟨h1, h2, h3⟩ := ih (by simp only [List.length_cons] at h; omega)
    rw [pairsP]
    refine ⟨by rw [flP_cons, flP_cons, flP_cons, h1]; simp, by rw [wtP_cons, wtP_cons, wtP_cons, h2]; show a.w + b.w + _ = _; omega, fun hn e he => ?_⟩
    have ha := hn a List.mem_cons_self
    have hb := hn b (List.mem_cons_of_mem _ List.mem_cons_self)
    rcases List.mem_cons.1 he with rfl | he
    · exact ⟨_, List.mem_cons_self, by show e.w ≤ e.w + b.w; omega⟩
    · rcases List.mem_cons.1 he with rfl | he
      · exact ⟨_, List.mem_cons_self, by show e.w ≤ a.w + e.w; omega⟩
      · obtain ⟨p, hp, hw⟩ := h3 (fun q hq => hn q (List.mem_cons_of_mem _ (List.mem_cons_of_mem _ hq))) e he
        exact ⟨p, List.mem_cons_of_mem _ hp, hw⟩
  | case2 t h' =>
    match t, h' with
    | [], _ => exact ⟨rfl, rfl, fun _ e he => by simp at he⟩
    | [a], _ => simp at h
    | a :: b :: r, h' => exact absurd rfl (h' a b r)
theorem pairs_mem (l : List Pk) : ∀ p ∈ pairsP l, ∃ c ∈ l, ∃ d ∈ l, p.w = c.w + d.w ∧ p.l = c.l ++ d.l := by
  induction l using pairsP.induct with
  | case1 a b r ih =>
    intro p hp
    rw [pairsP] at hp
    rcases List.mem_cons.1 hp with rfl | hp
    · exact ⟨a, List.mem_cons_self, b, List.mem_cons_of_mem _ List.mem_cons_self, rfl, rfl⟩
    · obtain ⟨c, hc, d, hd, h1, h2⟩ := ih p hp
      exact ⟨c, List.mem_cons_of_mem _ (List.mem_cons_of_mem _ hc), d, List.mem_cons_of_mem _ (List.mem_cons_of_mem _ hd), h1, h2⟩
  | case2 t h =>
    match t, h with
    | [], _ => intro p hp; simp [pairsP] at hp
    | [a], _ => intro p hp; simp [pairsP] at hp
    | a :: b :: r, h => exact absurd rfl (h a b r)
theorem pairs_sorted (l : List Pk) (h : Srt l) : Srt (pairsP l) := by
  induction l using pairsP.induct with
  | case1 a b r ih =>
    rw [pairsP]
    have h1 := List.pairwise_cons.1 h
    have h2 := List.pairwise_cons.1 h1.2
    refine List.pairwise_cons.2 ⟨fun p hp => ?_, ih h2.2⟩
    obtain ⟨c, hc, d, hd, e, _⟩ := pairs_mem r p hp
    have := h1.1 c (List.mem_cons_of_mem _ hc)
    have := h2.1 d hd
    show a.w + b.w ≤ p.w
    omega
  | case2 t h' =>
    match t, h' with
    | [], _ => exact List.Pairwise.nil
    | [a], _ => exact List.Pairwise.nil
    | a :: b :: r, h' => exact absurd rfl (h' a b r)
theorem lev_sorted (hF : Srt F) (k : Nat) : Srt (lev F k) := by
  induction k with
  | zero => exact hF
  | succ k ih => exact mrg_sorted hF (pairs_sorted _ ih)
theorem lev_length (F : List Pk) (k : Nat) : (lev F (k + 1)).length = F.length + (lev F k).length / 2 := by rw [lev, mrg_length, pairs_length]
theorem lev_nonneg (hF : ∀ p ∈ F, 0 ≤ p.w) (k : Nat) : ∀ p ∈ lev F k, 0 ≤ p.w := by
  induction k with
  | zero => exact hF
  | succ k ih =>
    intro p hp
    rcases List.mem_append.1 ((mrg_perm _ _).mem_iff.1 hp) with h | h
    · exact hF p h
    · obtain ⟨c, hc, d, hd, e, _⟩ := pairs_mem _ p h
      have := ih c hc
      have := ih d hd
      omega
theorem lev_long (h : F.length ≤ n * 2 ^ k) : 2 * F.length ≤ (lev F k).length + n := by
  induction k generalizing n with
  | zero => rw [Nat.pow_zero, Nat.mul_one] at h; show 2 * F.length ≤ F.length + n; omega
  | succ k ih =>
    have := ih (n := 2 * n) (by rw [Nat.pow_succ] at h; rw [Nat.mul_comm 2 n, Nat.mul_assoc, Nat.mul_comm 2]; exact h)
    rw [lev_length]
    omega
def valB : List Nat → Nat
  | [] => 0
  | b :: r => b * 2 ^ r.length + valB r
theorem lev_chain (hF : Srt F) (h0 : ∀ p ∈ F, 0 ≤ p.w) (k : Nat) : ∀ x, x ≤ (lev F k).length → ∃ A B, (A :: B).length = k + 1 ∧ (∀ b ∈ A :: B, b ≤ F.length) ∧ (A :: B).Pairwise (fun c d => d ≤ c) ∧
    (flP ((lev F k).take x)).Perm ((A :: B).flatMap fun b => flP (F.take b)) ∧ valB (A :: B) = x * 2 ^ k ∧ ∀ e ∈ F.take A, e ∈ (lev F k).take x := by
  induction k with
  | zero =>
    intro x hx
    refine ⟨x, [], rfl, fun b hb => ?_, by simp, ?_, by simp [valB], fun e he => he⟩
    · rcases List.mem_cons.1 hb with rfl | hb
      · exact hx
      · simp at hb
    · show (flP (F.take x)).Perm _
      simp
  | succ k ih =>
    intro x hx
    have hs := pairs_sorted _ (lev_sorted hF k)
    obtain ⟨a1, a2, b1, b2, e1, e2, e3, e4, e5, e6⟩ := mrg_split hF hs (x := x) (by rw [← mrg_length]; exact hx)
    have hb1 : b1.length ≤ (lev F k).length / 2 := by
      rw [← pairs_length, e2, List.length_append]; omega
    have hb1t : b1 = (pairsP (lev F k)).take b1.length := by rw [e2, List.take_left]
    have ha1t : a1 = F.take a1.length := by rw [e1, List.take_left]
    obtain ⟨A, B, g1, g2, g3, g4, g5, g6⟩ := ih (2 * b1.length) (by omega)
    have hev : ((lev F k).take (2 * b1.length)).length % 2 = 0 := by rw [List.length_take]; omega
    obtain ⟨p1, p2, p3⟩ := pairs_even _ hev
    rw [← pairs_take, ← hb1t] at p1 p2 p3
    have hAle : A ≤ a1.length := by
      rcases Nat.lt_or_ge a1.length A with hlt | h
      · exfalso
        have hAn := g2 A List.mem_cons_self
        cases a2 with
        | nil => rw [e1, List.append_nil] at hAn; omega
        | cons q a2 =>
          have hq : q ∈ F.take A := by
            rw [e1, List.take_append]
            refine List.mem_append_right _ ?_
            obtain ⟨z, hz⟩ : ∃ z, A - a1.length = z + 1 := ⟨A - a1.length - 1, by omega⟩
            rw [hz, List.take_succ_cons]
            exact List.mem_cons_self
          obtain ⟨p, hp, hw⟩ := p3 (fun e he => lev_nonneg h0 k e (List.mem_of_mem_take he)) q (g6 q hq)
          have := e5 p hp q List.mem_cons_self
          omega
      · exact h
    refine ⟨a1.length, A :: B, by rw [List.length_cons, g1], fun b hb => ?_, List.pairwise_cons.2 ⟨fun b hb => ?_, g3⟩, ?_, ?_, fun e he => ?_⟩
    · rcases List.mem_cons.1 hb with rfl | hb
      · rw [e1, List.length_append]; omega
      · exact g2 b hb
    · rcases List.mem_cons.1 hb with rfl | hb
      · exact hAle
      · exact Nat.le_trans ((List.pairwise_cons.1 g3).1 b hb) hAle
    · refine (flP_perm e4).trans ?_
      rw [flP_append, List.flatMap_cons, ← ha1t, p1]
      exact List.Perm.append_left _ g4
    · rw [valB, g1, g5, ← e3, Nat.pow_succ, Nat.add_mul]
      congr 1
      rw [Nat.mul_comm 2 b1.length, Nat.mul_assoc, Nat.mul_comm 2]
    · rw [← ha1t] at he
      exact e4.mem_iff.2 (List.mem_append_left _ he)
theorem lev_least (hF : Srt F) (h0 : ∀ p ∈ F, 0 ≤ p.w) (k : Nat) : ∀ B : List Nat, B.length = k + 1 → (∀ b ∈ B, b ≤ F.length) → valB B / 2 ^ k ≤ (lev F k).length ∧ wtP ((lev F k).take (valB B / 2 ^ k)) ≤ (B.map fun b => wtP (F.take b)).sum := by
  induction k with
  | zero =>
    intro B hB hb
    match B, hB with
    | [b], _ =>
      have e : valB [b] / 2 ^ 0 = b := by simp [valB]
      rw [e]
      refine ⟨hb b List.mem_cons_self, ?_⟩
      show wtP (F.take b) ≤ _
      simp
  | succ k ih =>
    intro B hB hb
    match B, hB with
    | b :: B, hB =>
      have hB : B.length = k + 1 := by simpa using hB
      obtain ⟨h1, h2⟩ := ih B hB fun c hc => hb c (List.mem_cons_of_mem _ hc)
      obtain ⟨X, hX⟩ : ∃ X, valB B / 2 ^ k = X := ⟨_, rfl⟩
      have e : valB (b :: B) / 2 ^ (k + 1) = b + X / 2 := by
        rw [valB, hB, ← hX, Nat.div_div_eq_div_mul, ← Nat.pow_succ, Nat.add_comm, Nat.add_mul_div_right _ _ (Nat.two_pow_pos _), Nat.add_comm]
      rw [hX] at h1 h2
      have hbn := hb b List.mem_cons_self
      rw [e]
      have hpl : X / 2 ≤ (pairsP (lev F k)).length := by rw [pairs_length]; omega
      refine ⟨by rw [lev_length]; omega, ?_⟩
      have h3 := mrg_least hF (pairs_sorted _ (lev_sorted hF k)) hbn hpl
      have hev : ((lev F k).take (2 * (X / 2))).length % 2 = 0 := by rw [List.length_take]; omega
      have h4 := (pairs_even _ hev).2.1
      rw [← pairs_take] at h4
      have h5 : wtP ((lev F k).take (2 * (X / 2))) ≤ wtP ((lev F k).take X) := by
        have f : (lev F k).take X = (lev F k).take (2 * (X / 2)) ++ ((lev F k).take X).drop (2 * (X / 2)) := by
          have : (lev F k).take (2 * (X / 2)) = ((lev F k).take X).take (2 * (X / 2)) := by rw [List.take_take, Nat.min_eq_left (by omega)]
          rw [this, List.take_append_drop]
        have g : 0 ≤ wtP (((lev F k).take X).drop (2 * (X / 2))) := wtP_nonneg fun p hp => lev_nonneg h0 k p (List.mem_of_mem_take (List.mem_of_mem_drop hp))
        rw [f, wtP_append]
        omega
      rw [List.map_cons, List.sum_cons]
      show wtP ((mrg F (pairsP (lev F k))).take (b + X / 2)) ≤ _
      omega
end
end Go.Proofs.Ytlgkiookobedcaa
namespace Go.Proofs.Ytlgkiookobedcaa
set_option linter.unusedVariables false
def leafs (f : Int → Int) (S : List Int) : List Pk := S.map fun s => ⟨f s, [s]⟩
def takenP (f : Int → Int) (S : List Int) (m : Nat) : List Int := flP ((lev (leafs f S) (m - 1)).take (2 * S.length - 2))
def lenP (f : Int → Int) (S : List Int) (m : Nat) (s : Int) : Nat := (takenP f S m).count s
def cntB : List Nat → Nat → Nat
  | [], _ => 0
  | b :: B, r => (if r < b then 1 else 0) + cntB B r
def krB : List Nat → Nat → Nat
  | [], _ => 0
  | b :: B, r => (if r < b then 2 ^ B.length else 0) + krB B r
section
variable {f : Int → Int} {S : List Int} {m n : Nat}
theorem fl_leafs (f : Int → Int) (S : List Int) : flP (leafs f S) = S := by
  induction S with
  | nil => rfl
  | cons s S ih => rw [leafs, List.map_cons, flP_cons]; show [s] ++ flP (leafs f S) = _; rw [ih]; rfl
theorem wt_leafs (f : Int → Int) (S : List Int) : wtP (leafs f S) = (S.map f).sum := by
  induction S with
  | nil => rfl
  | cons s S ih => rw [leafs, List.map_cons, wtP_cons]; show f s + wtP (leafs f S) = _; rw [ih]; simp
theorem leafs_take (f : Int → Int) (S : List Int) (b : Nat) : (leafs f S).take b = leafs f (S.take b) := by unfold leafs; rw [List.map_take]
theorem leafs_length (f : Int → Int) (S : List Int) : (leafs f S).length = S.length := by simp [leafs]
theorem leafs_sorted (h : S.Pairwise fun s t => f s ≤ f t) : Srt (leafs f S) := by
  unfold Srt leafs
  rw [List.pairwise_map]
  exact h
theorem leafs_mem : ∀ p ∈ leafs f S, ∃ s ∈ S, p.w = f s ∧ p.l = [s] := fun p hp => by
  obtain ⟨s, hs, rfl⟩ := List.mem_map.1 hp
  exact ⟨s, hs, rfl, rfl⟩
theorem sum_ge (l : List Nat) (h : ∀ x ∈ l, 1 ≤ x) : l.length ≤ l.sum := by
  induction l with
  | nil => exact Nat.le_refl _
  | cons x l ih =>
    have := h x List.mem_cons_self
    have := ih fun y hy => h y (List.mem_cons_of_mem _ hy)
    simp only [List.length_cons, List.sum_cons]
    omega
theorem sum_perm {a b : List Nat} (h : a.Perm b) : a.sum = b.sum := by
  induction h with
  | nil => rfl
  | cons x _ ih => rw [List.sum_cons, List.sum_cons, ih]
  | swap x y l => simp only [List.sum_cons]; omega
  | trans _ _ h1 h2 => exact h1.trans h2
theorem sumI_perm {a b : List Int} (h : a.Perm b) : a.sum = b.sum := by
  induction h with
  | nil => rfl
  | cons x _ ih => rw [List.sum_cons, List.sum_cons, ih]
  | swap x y l => simp only [List.sum_cons]; omega
  | trans _ _ h1 h2 => exact h1.trans h2
theorem range_map (S : List Int) : (List.range S.length).map (ix S) = S := by
  apply List.ext_getElem
  · simp
  · intro i h1 h2
    simp [ix, h2]
theorem sumN_step (b c : Nat) : ∀ n, b ≤ n → ((List.range n).map fun r => if r < b then c else 0).sum = b * c := by
  intro n
  induction n generalizing b with
  | zero => intro h; obtain rfl : b = 0 := by omega
            simp
  | succ n ih =>
    intro h
    rw [List.range_succ, List.map_append, List.sum_append]
    by_cases e : b = n + 1
    · subst e
      have h2 : ((List.range n).map fun r => if r < n + 1 then c else 0) = (List.range n).map fun r => if r < n then c else 0 := List.map_congr_left fun r hr => by
        have := List.mem_range.1 hr
        rw [if_pos (by omega), if_pos (by omega)]
      rw [h2, ih n (Nat.le_refl _)]
      simp [Nat.add_mul]
    · rw [ih b (by omega)]
      simp only [List.map_cons, List.map_nil, List.sum_cons, List.sum_nil]
      rw [if_neg (by omega)]
      omega
theorem sum_add {α : Type} (l : List α) (g h : α → Nat) : (l.map fun x => g x + h x).sum = (l.map g).sum + (l.map h).sum := by
  induction l with
  | nil => rfl
  | cons x l ih => simp only [List.map_cons, List.sum_cons, ih]; omega
theorem sumI_add {α : Type} (l : List α) (g h : α → Int) : (l.map fun x => g x + h x).sum = (l.map g).sum + (l.map h).sum := by
  induction l with
  | nil => rfl
  | cons x l ih => simp only [List.map_cons, List.sum_cons, ih]; omega
theorem sumI_le {α : Type} (l : List α) (g h : α → Int) (H : ∀ x ∈ l, g x ≤ h x) : (l.map g).sum ≤ (l.map h).sum := by
  induction l with
  | nil => exact Int.le_refl _
  | cons x l ih =>
    simp only [List.map_cons, List.sum_cons]
    have := H x List.mem_cons_self
    have := ih fun y hy => H y (List.mem_cons_of_mem _ hy)
    omega
theorem kr_sum (B : List Nat) (n : Nat) (h : ∀ b ∈ B, b ≤ n) : ((List.range n).map (krB B)).sum = valB B := by
  induction B with
  | nil => simp only [krB, valB]; induction n with
           | zero => rfl
           | succ n ih => rw [List.range_succ, List.map_append, List.sum_append, ih (by simp)]; rfl
  | cons b B ih =>
    have e : (krB (b :: B)) = fun r => (if r < b then 2 ^ B.length else 0) + krB B r := by funext r; rfl
    rw [e, sum_add, sumN_step _ _ _ (h b List.mem_cons_self), valB, ih fun c hc => h c (List.mem_cons_of_mem _ hc)]
theorem cnt_zero (B : List Nat) (r : Nat) (h : ∀ b ∈ B, b ≤ r) : cntB B r = 0 ∧ krB B r = 0 := by
  induction B with
  | nil => exact ⟨rfl, rfl⟩
  | cons b B ih =>
    have := h b List.mem_cons_self
    obtain ⟨h1, h2⟩ := ih fun c hc => h c (List.mem_cons_of_mem _ hc)
    rw [cntB, krB, if_neg (by omega), if_neg (by omega), h1, h2]
    exact ⟨rfl, rfl⟩
theorem cntB_le (B : List Nat) (r : Nat) : cntB B r ≤ B.length := by
  induction B with
  | nil => exact Nat.le_refl _
  | cons b B ih => rw [cntB, List.length_cons]; split <;> omega
theorem cntB_mono (B : List Nat) {r r' : Nat} (h : r ≤ r') : cntB B r' ≤ cntB B r := by
  induction B with
  | nil => exact Nat.le_refl _
  | cons b B ih =>
    rw [cntB, cntB]
    by_cases h1 : r' < b
    · rw [if_pos h1, if_pos (by omega)]; omega
    · rw [if_neg h1]; split <;> omega
theorem kr_len (B : List Nat) (r : Nat) (hB : B.Pairwise fun c d => d ≤ c) : 2 ^ (B.length - cntB B r) + krB B r = 2 ^ B.length := by
  induction B with
  | nil => rfl
  | cons b B ih =>
    obtain ⟨h1, h2⟩ := List.pairwise_cons.1 hB
    have hc := cntB_le B r
    by_cases h : r < b
    · rw [cntB, krB, if_pos h, if_pos h, List.length_cons, show B.length + 1 - (1 + cntB B r) = B.length - cntB B r by omega, Nat.pow_succ]
      have := ih h2
      omega
    · obtain ⟨z1, z2⟩ := cnt_zero B r fun c hc => by have := h1 c hc; omega
      rw [cntB, krB, if_neg h, if_neg h, z1, z2]
      rfl
theorem ix_mem {S : List Int} {r : Nat} (hr : r < S.length) : ix S r ∈ S := by
  have : ix S r = S[r] := by simp [ix, hr]
  rw [this]
  exact List.getElem_mem hr
theorem count_take (hn : S.Nodup) {r : Nat} (hr : r < S.length) (b : Nat) : (S.take b).count (ix S r) = if r < b then 1 else 0 := by
  induction S generalizing r b with
  | nil => simp at hr
  | cons x xs ih =>
    obtain ⟨h1, h2⟩ := List.nodup_cons.1 hn
    cases b with
    | zero => simp
    | succ b =>
      rw [List.take_succ_cons, List.count_cons]
      cases r with
      | zero =>
        have e : ix (x :: xs) 0 = x := rfl
        rw [e, List.count_eq_zero_of_not_mem fun h => h1 (List.mem_of_mem_take h)]
        simp
      | succ r =>
        have hr' : r < xs.length := by simpa using hr
        have e : ix (x :: xs) (r + 1) = ix xs r := rfl
        have hne : x ≠ ix xs r := fun h => h1 (by rw [h]; exact ix_mem hr')
        rw [e, ih h2 hr']
        simp [hne]
theorem count_flat (hn : S.Nodup) {r : Nat} (hr : r < S.length) (B : List Nat) : (B.flatMap fun b => S.take b).count (ix S r) = cntB B r := by
  induction B with
  | nil => rfl
  | cons b B ih => rw [List.flatMap_cons, List.count_append, ih, count_take hn hr, cntB]
theorem lev_weight (f : Int → Int) (S : List Int) (k : Nat) : ∀ p ∈ lev (leafs f S) k, p.w = (p.l.map f).sum ∧ ∀ s ∈ p.l, s ∈ S := by
  have h0 : ∀ p ∈ leafs f S, p.w = (p.l.map f).sum ∧ ∀ s ∈ p.l, s ∈ S := fun p hp => by
    obtain ⟨s, hs, h1, h2⟩ := leafs_mem p hp
    rw [h1, h2]
    refine ⟨by simp, fun t ht => ?_⟩
    rw [List.mem_singleton.1 ht]; exact hs
  induction k with
  | zero => exact h0
  | succ k ih =>
    intro p hp
    rcases List.mem_append.1 ((mrg_perm _ _).mem_iff.1 hp) with h | h
    · exact h0 p h
    · obtain ⟨c, hc, d, hd, e1, e2⟩ := pairs_mem _ p h
      obtain ⟨c1, c2⟩ := ih c hc
      obtain ⟨d1, d2⟩ := ih d hd
      rw [e1, e2, c1, d1]
      refine ⟨by simp, fun s hs => ?_⟩
      rcases List.mem_append.1 hs with h | h
      · exact c2 s h
      · exact d2 s h
theorem wt_flat (f : Int → Int) (l : List Pk) (h : ∀ p ∈ l, p.w = (p.l.map f).sum) : wtP l = ((flP l).map f).sum := by
  induction l with
  | nil => rfl
  | cons p l ih => rw [wtP_cons, flP_cons, List.map_append, List.sum_append, h p List.mem_cons_self, ih fun q hq => h q (List.mem_cons_of_mem _ hq)]
theorem pick_sum (f : Int → Int) {t : Int} (hn : S.Nodup) (ht : t ∈ S) : (S.map fun s => f s * (if t = s then 1 else 0)).sum = f t := by
  induction S with
  | nil => simp at ht
  | cons s S ih =>
    obtain ⟨h1, h2⟩ := List.nodup_cons.1 hn
    rw [List.map_cons, List.sum_cons]
    by_cases e : t = s
    · subst e
      have hz : (S.map fun s => f s * (if t = s then 1 else 0)) = S.map fun _ => (0 : Int) := List.map_congr_left fun u hu => by
        rw [if_neg (fun e' => h1 (by rw [e']; exact hu)), Int.mul_zero]
      have hz2 : ∀ l : List Int, (l.map fun _ => (0 : Int)).sum = 0 := fun l => by induction l with
        | nil => rfl
        | cons x l ih => rw [List.map_cons, List.sum_cons, ih]; rfl
      rw [hz, hz2, if_pos rfl]; omega
    · have hm : t ∈ S := by
        rcases List.mem_cons.1 ht with h | h
        · exact absurd h e
        · exact h
      rw [ih h2 hm, if_neg e]; omega
theorem sum_count (f : Int → Int) (hn : S.Nodup) (T : List Int) (h : ∀ t ∈ T, t ∈ S) : (T.map f).sum = (S.map fun s => f s * ((T.count s : Nat) : Int)).sum := by
  induction T with
  | nil =>
    have : ∀ l : List Int, (l.map fun s => f s * ((([] : List Int).count s : Nat) : Int)).sum = 0 := fun l => by
      induction l with
      | nil => rfl
      | cons x l ih => rw [List.map_cons, List.sum_cons, ih]; simp
    rw [this]; rfl
  | cons t T ih =>
    have e : (S.map fun s => f s * (((t :: T).count s : Nat) : Int)) = S.map fun s => f s * ((T.count s : Nat) : Int) + f s * (if t = s then 1 else 0) := List.map_congr_left fun s _ => by
      rw [List.count_cons, ← Int.mul_add]
      congr 1
      by_cases h : t = s
      · subst h; simp
      · simp [h]
    rw [e, sumI_add, pick_sum f hn (h t List.mem_cons_self), List.map_cons, List.sum_cons, ih fun u hu => h u (List.mem_cons_of_mem _ hu)]
    omega
theorem val_add {α : Type} (D : List α) (g h : α → Nat) : valB (D.map fun d => g d + h d) = valB (D.map g) + valB (D.map h) := by
  induction D with
  | nil => rfl
  | cons d D ih => simp only [List.map_cons, valB, List.length_map, ih, Nat.add_mul]; omega
theorem val_one (m c : Nat) (h : c ≤ m) : valB ((List.range m).map fun d => if d < c then 1 else 0) + 2 ^ (m - c) = 2 ^ m := by
  induction m generalizing c with
  | zero => obtain rfl : c = 0 := by omega
            rfl
  | succ m ih =>
    rw [List.range_succ_eq_map, List.map_cons, List.map_map, valB, List.length_map, List.length_range]
    cases c with
    | zero =>
      have e : ((List.range m).map ((fun d => if d < 0 then 1 else 0) ∘ Nat.succ)) = (List.range m).map fun d => if d < 0 then 1 else 0 := List.map_congr_left fun d _ => by simp
      rw [e, if_neg (by omega)]
      have := ih 0 (Nat.zero_le _)
      rw [Nat.sub_zero] at this ⊢
      omega
    | succ c =>
      have e : ((List.range m).map ((fun d => if d < c + 1 then 1 else 0) ∘ Nat.succ)) = (List.range m).map fun d => if d < c then 1 else 0 := List.map_congr_left fun d _ => by
        simp only [Function.comp, Nat.succ_eq_add_one]
        by_cases h : d < c
        · rw [if_pos (by omega), if_pos h]
        · rw [if_neg (by omega), if_neg h]
      rw [e, if_pos (by omega), show m + 1 - (c + 1) = m - c by omega, Nat.pow_succ]
      have := ih c (by omega)
      omega
theorem val_zero (m : Nat) : valB ((List.range m).map fun _ => 0) = 0 := by
  have : ∀ D : List Nat, valB (D.map fun _ => 0) = 0 := fun D => by
    induction D with
    | nil => rfl
    | cons d D ih => rw [List.map_cons, valB, ih]; omega
  exact this _
theorem other_val (g : Int → Nat) (S : List Int) (h : ∀ s ∈ S, g s ≤ m) : valB ((List.range m).map fun d => (S.filter fun s => decide (d < g s)).length) + (S.map fun s => 2 ^ (m - g s)).sum = S.length * 2 ^ m := by
  induction S with
  | nil => simp only [List.filter_nil, List.length_nil, List.map_nil, List.sum_nil]; rw [val_zero]; omega
  | cons s S ih =>
    have e : (fun d => ((s :: S).filter fun s => decide (d < g s)).length) = fun d => (if d < g s then 1 else 0) + (S.filter fun s => decide (d < g s)).length := by
      funext d
      rw [List.filter_cons]
      by_cases h : d < g s
      · simp [h]; omega
      · simp [h]
    rw [e, val_add, List.map_cons, List.sum_cons, List.length_cons, Nat.add_mul]
    have h1 := val_one m (g s) (h s List.mem_cons_self)
    have h2 := ih fun t ht => h t (List.mem_cons_of_mem _ ht)
    omega
theorem head_least {x : Int} {xs : List Int} (h : (x :: xs).Pairwise fun s t => f s ≤ f t) (c : Nat) (hc : c ≤ xs.length) : (((x :: xs).take c).map f).sum ≤ ((xs.take c).map f).sum := by
  induction xs generalizing x c with
  | nil => obtain rfl : c = 0 := by simpa using hc
           simp
  | cons y ys ih =>
    cases c with
    | zero => simp
    | succ c =>
      have h1 := List.pairwise_cons.1 h
      rw [List.take_succ_cons, List.take_succ_cons, List.map_cons, List.map_cons, List.sum_cons, List.sum_cons]
      have := ih (x := y) h1.2 c (by simpa using hc)
      have := h1.1 y List.mem_cons_self
      omega
theorem filter_least (h : S.Pairwise fun s t => f s ≤ f t) (p : Int → Bool) : ((S.take (S.filter p).length).map f).sum ≤ ((S.filter p).map f).sum := by
  induction S with
  | nil => exact Int.le_refl _
  | cons x xs ih =>
    have h1 := List.pairwise_cons.1 h
    have h2 := ih h1.2
    rw [List.filter_cons]
    by_cases hp : p x = true
    · rw [if_pos hp, List.length_cons, List.take_succ_cons, List.map_cons, List.map_cons, List.sum_cons, List.sum_cons]
      omega
    · rw [if_neg hp]
      have := head_least h (xs.filter p).length (List.length_filter_le _ _)
      omega
theorem sumI_step (v : Int) : ∀ m c : Nat, c ≤ m → ((List.range m).map fun d => if d < c then v else 0).sum = v * (c : Int) := by
  intro m
  induction m with
  | zero => intro c h; obtain rfl : c = 0 := by omega
            simp
  | succ m ih =>
    intro c h
    rw [List.range_succ, List.map_append, List.sum_append]
    by_cases e : c = m + 1
    · subst e
      have h2 : ((List.range m).map fun r => if r < m + 1 then v else 0) = (List.range m).map fun r => if r < m then v else 0 := List.map_congr_left fun r hr => by
        have := List.mem_range.1 hr
        rw [if_pos (by omega), if_pos (by omega)]
      rw [h2, ih m (Nat.le_refl _)]
      simp only [List.map_cons, List.map_nil, List.sum_cons, List.sum_nil]
      rw [if_pos (by omega), Int.natCast_add, Int.mul_add]
      omega
    · rw [ih c (by omega)]
      simp only [List.map_cons, List.map_nil, List.sum_cons, List.sum_nil]
      rw [if_neg (by omega)]
      omega
theorem other_cost (f : Int → Int) (g : Int → Nat) (S : List Int) (h : ∀ s ∈ S, g s ≤ m) : ((List.range m).map fun d => ((S.filter fun s => decide (d < g s)).map f).sum).sum = (S.map fun s => f s * (g s : Int)).sum := by
  induction S with
  | nil =>
    have : ∀ D : List Nat, (D.map fun _ => (0 : Int)).sum = 0 := fun D => by
      induction D with
      | nil => rfl
      | cons d D ih => rw [List.map_cons, List.sum_cons, ih]; rfl
    simp only [List.filter_nil, List.map_nil, List.sum_nil]
    exact this _
  | cons s S ih =>
    have e : (fun d => (((s :: S).filter fun s => decide (d < g s)).map f).sum) = fun d => (if d < g s then f s else 0) + ((S.filter fun s => decide (d < g s)).map f).sum := by
      funext d
      rw [List.filter_cons]
      by_cases h : d < g s
      · simp [h]
      · simp [h]
    rw [e, sumI_add, sumI_step _ _ _ (h s List.mem_cons_self), ih fun t ht => h t (List.mem_cons_of_mem _ ht), List.map_cons, List.sum_cons]
structure LimLaw (f : Int → Int) (S : List Int) (m : Nat) (g : Int → Nat) : Prop where
  out : ∀ s, s ∉ S → g s = 0
  bd : ∀ s ∈ S, 1 ≤ g s ∧ g s ≤ m
  whole : (S.map fun s => 2 ^ (m - g s)).sum = 2 ^ m
  order : ∀ s ∈ S, ∀ t ∈ S, f s < f t → g t ≤ g s
  least : ∀ h : Int → Nat, (∀ s ∈ S, h s ≤ m) → (S.map fun s => 2 ^ (m - h s)).sum ≤ 2 ^ m → (S.map fun s => f s * (g s : Int)).sum ≤ (S.map fun s => f s * (h s : Int)).sum
theorem limit_law (hn : S.Nodup) (hs : S.Pairwise fun s t => f s ≤ f t) (h0 : ∀ s ∈ S, 0 ≤ f s) (h2 : 2 ≤ S.length) (hm : 1 ≤ m) (hl : S.length ≤ 2 ^ m) : LimLaw f S m (lenP f S m) := by
  have hF := leafs_sorted hs
  have hF0 : ∀ p ∈ leafs f S, 0 ≤ p.w := fun p hp => by
    obtain ⟨s, h1, h3, _⟩ := leafs_mem p hp
    rw [h3]; exact h0 s h1
  obtain ⟨K, rfl⟩ : ∃ K, m = K + 1 := ⟨m - 1, by omega⟩
  have hlong := lev_long (F := leafs f S) (n := 2) (k := K) (by rw [leafs_length, Nat.mul_comm, ← Nat.pow_succ]; exact hl)
  rw [leafs_length] at hlong
  obtain ⟨A, B, g1, g2, g3, g4, g5, -⟩ := lev_chain hF hF0 K (2 * S.length - 2) (by omega)
  rw [leafs_length] at g2
  have hT : (takenP f S (K + 1)).Perm ((A :: B).flatMap fun b => S.take b) := by
    have e : (fun b => flP ((leafs f S).take b)) = fun b => S.take b := by funext b; rw [leafs_take, fl_leafs]
    rw [e] at g4
    exact g4
  have hlen : ∀ r, r < S.length → lenP f S (K + 1) (ix S r) = cntB (A :: B) r := fun r hr => by
    unfold lenP
    rw [hT.count_eq, count_flat hn hr]
  have hval : ∀ s ∈ S, ∃ r, r < S.length ∧ ix S r = s := fun s hs => by
    obtain ⟨r, hr, e⟩ := List.getElem_of_mem hs
    exact ⟨r, hr, by simp [ix, hr, e]⟩
  have hle : ∀ s ∈ S, lenP f S (K + 1) s ≤ K + 1 := fun s hs => by
    obtain ⟨r, hr, rfl⟩ := hval s hs
    rw [hlen r hr, ← g1]
    exact cntB_le _ _
  have hwhole : (S.map fun s => 2 ^ (K + 1 - lenP f S (K + 1) s)).sum = 2 ^ (K + 1) := by
    have e1 : (S.map fun s => 2 ^ (K + 1 - lenP f S (K + 1) s)) = (List.range S.length).map fun r => 2 ^ (K + 1 - cntB (A :: B) r) := by
      have e0 : ∀ G : Int → Nat, S.map G = (List.range S.length).map fun r => G (ix S r) := fun G => by
        conv => lhs; rw [← range_map S, List.map_map]
        rfl
      rw [e0]
      refine List.map_congr_left fun r hr => ?_
      rw [hlen r (List.mem_range.1 hr)]
    have e2 := sum_add (List.range S.length) (fun r => 2 ^ (K + 1 - cntB (A :: B) r)) (krB (A :: B))
    have e3 : (fun r => 2 ^ (K + 1 - cntB (A :: B) r) + krB (A :: B) r) = fun _ => 2 ^ (K + 1) := by
      funext r
      have := kr_len (A :: B) r g3
      rw [g1] at this
      exact this
    have e4 : ((List.range S.length).map fun _ => 2 ^ (K + 1)).sum = S.length * 2 ^ (K + 1) := by
      have := sumN_step S.length (2 ^ (K + 1)) S.length (Nat.le_refl _)
      rw [← this]
      congr 1
      exact List.map_congr_left fun r hr => by rw [if_pos (List.mem_range.1 hr)]
    rw [e3, e4, kr_sum _ _ g2, g5] at e2
    rw [e1]
    have e5 : 2 * S.length - 2 = 2 * (S.length - 1) := by omega
    rw [e5, Nat.mul_assoc, Nat.mul_left_comm, ← Nat.pow_succ', Nat.succ_eq_add_one] at e2
    have e6 : S.length * 2 ^ (K + 1) = (S.length - 1) * 2 ^ (K + 1) + 2 ^ (K + 1) := by
      conv => lhs; rw [show S.length = S.length - 1 + 1 by omega, Nat.add_mul, Nat.one_mul]
    omega
  refine ⟨fun s hs => ?_, fun s hs => ⟨?_, hle s hs⟩, hwhole, fun s hs t ht hst => ?_, fun h hh hk => ?_⟩
  · refine List.count_eq_zero_of_not_mem fun hm => hs ?_
    obtain ⟨b, _, hb⟩ := List.mem_flatMap.1 (hT.mem_iff.1 hm)
    exact List.mem_of_mem_take hb
  · rcases Nat.eq_zero_or_pos (lenP f S (K + 1) s) with h | h
    · exfalso
      have hp := sum_perm ((List.perm_cons_erase hs).map fun s => 2 ^ (K + 1 - lenP f S (K + 1) s))
      rw [List.map_cons, List.sum_cons, h, hwhole, Nat.sub_zero] at hp
      have := sum_ge ((S.erase s).map fun s => 2 ^ (K + 1 - lenP f S (K + 1) s)) (fun x hx => by
        obtain ⟨t, _, rfl⟩ := List.mem_map.1 hx
        exact Nat.two_pow_pos _)
      rw [List.length_map, List.length_erase_of_mem hs] at this
      have h3 : (2 : Nat) ^ (K + 1) = 2 ^ (K + 1) + ((S.erase s).map fun s => 2 ^ (K + 1 - lenP f S (K + 1) s)).sum := hp
      omega
    · exact h
  · obtain ⟨r, hr, rfl⟩ := hval s hs
    obtain ⟨q, hq, rfl⟩ := hval t ht
    rw [hlen r hr, hlen q hq]
    refine cntB_mono _ ?_
    rcases Nat.lt_or_ge q r with h | h
    · exfalso
      have hp := List.pairwise_iff_getElem.1 ‹S.Pairwise fun s t => f s ≤ f t› q r hq hr h
      have e1 : ix S r = S[r] := by simp [ix, hr]
      have e2 : ix S q = S[q] := by simp [ix, hq]
      rw [e1, e2] at hst
      omega
    · exact h
  · obtain ⟨D, hD⟩ : ∃ D, D = (List.range (K + 1)).map fun d => (S.filter fun s => decide (d < h s)).length := ⟨_, rfl⟩
    have hv := other_val h S hh
    rw [← hD] at hv
    obtain ⟨l1, l2⟩ := lev_least hF hF0 K D (by rw [hD]; simp) (fun b hb => by
      rw [hD] at hb
      obtain ⟨d, _, rfl⟩ := List.mem_map.1 hb
      rw [leafs_length]
      exact List.length_filter_le _ _)
    have hX : 2 * S.length - 2 ≤ valB D / 2 ^ K := by
      rw [Nat.le_div_iff_mul_le (Nat.two_pow_pos _)]
      have e5 : (2 * S.length - 2) * 2 ^ K = (S.length - 1) * 2 ^ (K + 1) := by
        rw [show 2 * S.length - 2 = 2 * (S.length - 1) by omega, Nat.mul_assoc, Nat.mul_left_comm, ← Nat.pow_succ']
      have e6 : S.length * 2 ^ (K + 1) = (S.length - 1) * 2 ^ (K + 1) + 2 ^ (K + 1) := by
        conv => lhs; rw [show S.length = S.length - 1 + 1 by omega, Nat.add_mul, Nat.one_mul]
      rw [e5]
      omega
    have hw := lev_weight f S K
    have hpre : wtP ((lev (leafs f S) K).take (2 * S.length - 2)) = (S.map fun s => f s * ((lenP f S (K + 1) s : Nat) : Int)).sum := by
      rw [wt_flat f _ fun p hp => (hw p (List.mem_of_mem_take hp)).1]
      refine sum_count f hn _ fun t ht => ?_
      obtain ⟨p, hp, htp⟩ := List.mem_flatMap.1 ht
      exact (hw p (List.mem_of_mem_take hp)).2 t htp
    have hmono : wtP ((lev (leafs f S) K).take (2 * S.length - 2)) ≤ wtP ((lev (leafs f S) K).take (valB D / 2 ^ K)) := by
      have e : (lev (leafs f S) K).take (valB D / 2 ^ K) = (lev (leafs f S) K).take (2 * S.length - 2) ++ ((lev (leafs f S) K).take (valB D / 2 ^ K)).drop (2 * S.length - 2) := by
        have : (lev (leafs f S) K).take (2 * S.length - 2) = ((lev (leafs f S) K).take (valB D / 2 ^ K)).take (2 * S.length - 2) := by rw [List.take_take, Nat.min_eq_left hX]
        rw [this, List.take_append_drop]
      rw [e, wtP_append]
      have := wtP_nonneg (l := ((lev (leafs f S) K).take (valB D / 2 ^ K)).drop (2 * S.length - 2)) fun p hp => lev_nonneg hF0 K p (List.mem_of_mem_take (List.mem_of_mem_drop hp))
      omega
    have hsum : (D.map fun b => wtP ((leafs f S).take b)).sum ≤ (S.map fun s => f s * (h s : Int)).sum := by
      rw [← other_cost f h S hh, hD, List.map_map]
      refine sumI_le _ _ _ fun d _ => ?_
      show wtP ((leafs f S).take (S.filter fun s => decide (d < h s)).length) ≤ _
      rw [leafs_take, wt_leafs]
      exact filter_least ‹_› _
    omega
end
end Go.Proofs.Ytlgkiookobedcaa
namespace Go.Proofs.Ytlgkiookobedcaa
def costOf (a b : Int) : Int := if 0 < a ∧ 0 < b ∧ b ≤ 1048576 ∧ a ≤ 1048576 then a * b else 0
def costTo (l f : List Int) : Nat → Int
  | 0 => 0
  | k + 1 => costTo l f k + costOf (ix l k) (ix f k)
theorem costOf_bd (a b : Int) : 0 ≤ costOf a b ∧ costOf a b ≤ 1099511627776 := by
  unfold costOf
  split
  · rename_i h
    obtain ⟨h1, h2, h3, h4⟩ := h
    refine ⟨Int.mul_nonneg (by omega) (by omega), ?_⟩
    calc a * b ≤ 1048576 * 1048576 := Int.mul_le_mul h4 h3 (by omega) (by omega)
      _ = 1099511627776 := by rfl
  · omega
theorem costTo_bd (l f : List Int) (k : Nat) (hk : k ≤ 1000) : 0 ≤ costTo l f k ∧ costTo l f k ≤ 1099511627776 * k := by
  induction k with
  | zero => simp [costTo]
  | succ k ih =>
    have h1 := ih (by omega)
    have h2 := costOf_bd (ix l k) (ix f k)
    simp only [costTo]
    omega
theorem costOf_yes {a b : Int} (h1 : 0 < a) (h2 : 0 < b) (h3 : b ≤ 1048576) (h4 : a ≤ 1048576) : costOf a b = a * b := by
  unfold costOf; rw [if_pos ⟨h1, h2, h3, h4⟩]
theorem costOf_no {a b : Int} (h : ¬ (0 < a ∧ 0 < b ∧ b ≤ 1048576 ∧ a ≤ 1048576)) : costOf a b = 0 := by
  unfold costOf; rw [if_neg h]
end Go.Proofs.Ytlgkiookobedcaa
namespace Go.Proofs.Ytlgkiookobedcaa
open Go.RowKit
theorem heap_alloc_size (w : World) (o : Obj) : (w.alloc o).heap.size = w.heap.size + 1 := by simp
end Go.Proofs.Ytlgkiookobedcaa
