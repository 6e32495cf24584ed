/-
  Plain law: package-merge. Lists of packs that are merged level by level; how many leaves stand in a beginning of each level; the lengths that come of it are a whole code's, and cost least.
-/
import Derived.Test.YtbllgifmidnkhaaBase
namespace Go.Proofs.Ytbllgifmidnkhaa
set_option linter.unusedVariables false
/-- some symbols together, and how often all of them come -/
structure Pk where
  w : Int
  l : List Int
def pairsP : List Pk → List Pk
  | a :: b :: r => ⟨a.w + b.w, a.l ++ b.l⟩ :: pairsP r
  | _ => []
def mrg : List Pk → List Pk → List Pk
  | [], bs => bs
  | a :: as, [] => a :: as
  | a :: as, b :: bs => if b.w < a.w then b :: mrg (a :: as) bs else a :: mrg as (b :: bs)
termination_by as bs => as.length + bs.length
def lev (F : List Pk) : Nat → List Pk
  | 0 => F
  | k + 1 => mrg F (pairsP (lev F k))
def wtP (l : List Pk) : Int := (l.map Pk.w).sum
def flP (l : List Pk) : List Int := l.flatMap Pk.l
def Srt (l : List Pk) : Prop := l.Pairwise fun p q => p.w ≤ q.w
section
variable {a b l F : List Pk} {p q e : Pk} {k j x n m : Nat}
theorem mrg_nil (a : List Pk) : mrg a [] = a := by cases a <;> simp [mrg]
theorem nil_mrg (a : List Pk) : mrg [] a = a := by simp [mrg]
theorem mrg_perm (a b : List Pk) : (mrg a b).Perm (a ++ b) := by
  induction a generalizing b with
  | nil => rw [nil_mrg]; exact List.Perm.refl _
  | cons p as iha =>
    induction b with
    | nil => rw [mrg_nil, List.append_nil]
    | cons q bs ihb =>
      rw [mrg]
      split
      · exact (List.Perm.cons q ihb).trans List.perm_middle.symm
      · exact List.Perm.cons p (iha (q :: bs))
theorem mrg_length (a b : List Pk) : (mrg a b).length = a.length + b.length := by rw [(mrg_perm a b).length_eq, List.length_append]
theorem mrg_sorted (ha : Srt a) (hb : Srt b) : Srt (mrg a b) := by
  induction a generalizing b with
  | nil => rw [nil_mrg]; exact hb
  | cons p as iha =>
    induction b with
    | nil => rw [mrg_nil]; exact ha
    | cons q bs ihb =>
      have h1 := List.pairwise_cons.1 ha
      have h2 := List.pairwise_cons.1 hb
      rw [mrg]
      split <;> rename_i hw
      · refine List.pairwise_cons.2 ⟨fun r hr => ?_, ihb h2.2⟩
        rcases List.mem_append.1 ((mrg_perm _ _).mem_iff.1 hr) with h | h
        · rcases List.mem_cons.1 h with rfl | h
          · omega
          · have := h1.1 r h; omega
        · exact h2.1 r h
      · refine List.pairwise_cons.2 ⟨fun r hr => ?_, iha h1.2 hb⟩
        rcases List.mem_append.1 ((mrg_perm _ _).mem_iff.1 hr) with h | h
        · exact h1.1 r h
        · rcases List.mem_cons.1 h with rfl | h
          · omega
          · have := h2.1 r h; omega
/-- a beginning of the merged list: beginnings of both -/
theorem mrg_split (ha : Srt a) (hb : Srt b) (hx : x ≤ a.length + b.length) :
    ∃ a1 a2 b1 b2, a = a1 ++ a2 ∧ b = b1 ++ b2 ∧ a1.length + b1.length = x ∧ ((mrg a b).take x).Perm (a1 ++ b1) ∧ (∀ p ∈ b1, ∀ q ∈ a2, p.w < q.w) ∧ (∀ p ∈ a1, ∀ q ∈ b2, p.w ≤ q.w) := by
  induction x generalizing a b with
  | zero => exact ⟨[], a, [], b, rfl, rfl, rfl, by simp, by simp, by simp⟩
  | succ x ih =>
    cases a with
    | nil =>
      refine ⟨[], [], b.take (x + 1), b.drop (x + 1), rfl, (List.take_append_drop ..).symm, ?_, by rw [nil_mrg]; simp, by simp, by simp⟩
      simp only [List.length_nil, List.length_take] at hx ⊢
      omega
    | cons p as =>
      cases b with
      | nil =>
        refine ⟨(p :: as).take (x + 1), (p :: as).drop (x + 1), [], [], (List.take_append_drop ..).symm, rfl, ?_, by rw [mrg_nil]; simp, by simp, by simp⟩
        simp only [List.length_nil, List.length_take] at hx ⊢
        omega
      | cons q bs =>
        have h1 := List.pairwise_cons.1 ha
        have h2 := List.pairwise_cons.1 hb
        rw [mrg]
        split <;> rename_i hw
        · obtain ⟨a1, a2, b1, b2, e1, e2, e3, e4, e5, e6⟩ := ih (a := p :: as) (b := bs) ha h2.2 (by simp only [List.length_cons] at hx ⊢; omega)
          refine ⟨a1, a2, q :: b1, b2, e1, by rw [e2]; rfl, by simp only [List.length_cons]; omega, ?_, fun r hr s hs => ?_, e6⟩
          · rw [List.take_succ_cons]
            exact (List.Perm.cons q e4).trans List.perm_middle.symm
          · rcases List.mem_cons.1 hr with rfl | hr
            · have hm : s ∈ p :: as := by rw [e1]; exact List.mem_append_right _ hs
              rcases List.mem_cons.1 hm with rfl | hm
              · exact hw
              · have := h1.1 s hm; omega
            · exact e5 r hr s hs
        · obtain ⟨a1, a2, b1, b2, e1, e2, e3, e4, e5, e6⟩ := ih (a := as) (b := q :: bs) h1.2 hb (by simp only [List.length_cons] at hx ⊢; omega)
          refine ⟨p :: a1, a2, b1, b2, by rw [e1]; rfl, e2, by simp only [List.length_cons]; omega, ?_, e5, fun r hr s hs => ?_⟩
          · rw [List.take_succ_cons]
            exact List.Perm.cons p e4
          · rcases List.mem_cons.1 hr with rfl | hr
            · have hm : s ∈ q :: bs := by rw [e2]; exact List.mem_append_right _ hs
              rcases List.mem_cons.1 hm with rfl | hm
              · omega
              · have := h2.1 s hm; omega
            · exact e6 r hr s hs
theorem wtP_nil : wtP [] = 0 := rfl
theorem wtP_cons (p : Pk) (l : List Pk) : wtP (p :: l) = p.w + wtP l := by simp [wtP]
theorem wtP_append (a b : List Pk) : wtP (a ++ b) = wtP a + wtP b := by simp [wtP]
theorem wtP_perm (h : a.Perm b) : wtP a = wtP b := by
  induction h with
  | nil => rfl
  | cons x _ ih => rw [wtP_cons, wtP_cons, ih]
  | swap x y l => rw [wtP_cons, wtP_cons, wtP_cons, wtP_cons]; omega
  | trans _ _ h1 h2 => exact h1.trans h2
theorem flP_append (a b : List Pk) : flP (a ++ b) = flP a ++ flP b := by simp [flP]
theorem flP_cons (p : Pk) (l : List Pk) : flP (p :: l) = p.l ++ flP l := by simp [flP]
theorem flP_perm (h : a.Perm b) : (flP a).Perm (flP b) := List.Perm.flatMap_right _ h
theorem wtP_nonneg (h : ∀ p ∈ l, 0 ≤ p.w) : 0 ≤ wtP l := by
  induction l with
  | nil => exact Int.le_refl _
  | cons p l ih =>
    rw [wtP_cons]
    have := h p List.mem_cons_self
    have := ih fun q hq => h q (List.mem_cons_of_mem _ hq)
    omega
/-- two lists of one length, one below the other -/
theorem wtP_le (hl : a.length = b.length) (h : ∀ p ∈ a, ∀ q ∈ b, p.w ≤ q.w) : wtP a ≤ wtP b := by
  induction a generalizing b with
  | nil =>
    cases b with
    | nil => exact Int.le_refl _
    | cons q b => simp at hl
  | cons p a ih =>
    cases b with
    | nil => simp at hl
    | cons q b =>
      rw [wtP_cons, wtP_cons]
      have h1 := h p List.mem_cons_self q List.mem_cons_self
      have h2 := ih (b := b) (by simpa using hl) fun r hr s hs => h r (List.mem_cons_of_mem _ hr) s (List.mem_cons_of_mem _ hs)
      omega
/-- a beginning of the merged list weighs no more than any two beginnings that are as long -/
theorem mrg_least {i j : Nat} (ha : Srt a) (hb : Srt b) (hi : i ≤ a.length) (hj : j ≤ b.length) : wtP ((mrg a b).take (i + j)) ≤ wtP (a.take i) + wtP (b.take j) := by
  obtain ⟨a1, a2, b1, b2, e1, e2, e3, e4, e5, e6⟩ := mrg_split ha hb (x := i + j) (by omega)
  rw [wtP_perm e4, wtP_append]
  rcases Nat.le_total a1.length i with h | h
  · -- the beginning has more of b
    have f1 : a.take i = a1 ++ a2.take (i - a1.length) := by rw [e1, List.take_append, List.take_of_length_le h]
    have f2 : b1 = b.take j ++ b1.drop j := by
      have : b.take j = b1.take j := by rw [e2, List.take_append_of_le_length (by omega)]
      rw [this, List.take_append_drop]
    have hla : a2.length = a.length - a1.length := by rw [e1, List.length_append]; omega
    have hle : wtP (b1.drop j) ≤ wtP (a2.take (i - a1.length)) := wtP_le (by rw [List.length_drop, List.length_take]; omega) fun p hp q hq => Int.le_of_lt (e5 p (List.mem_of_mem_drop hp) q (List.mem_of_mem_take hq))
    rw [f1, wtP_append]
    have : wtP b1 = wtP (b.take j) + wtP (b1.drop j) := by rw [← wtP_append, ← f2]
    omega
  · have f1 : b.take j = b1 ++ b2.take (j - b1.length) := by rw [e2, List.take_append, List.take_of_length_le (by omega)]
    have f2 : a1 = a.take i ++ a1.drop i := by
      have : a.take i = a1.take i := by rw [e1, List.take_append_of_le_length h]
      rw [this, List.take_append_drop]
    have hlb : b2.length = b.length - b1.length := by rw [e2, List.length_append]; omega
    have hle : wtP (a1.drop i) ≤ wtP (b2.take (j - b1.length)) := wtP_le (by rw [List.length_drop, List.length_take]; omega) fun p hp q hq => e6 p (List.mem_of_mem_drop hp) q (List.mem_of_mem_take hq)
    rw [f1, wtP_append]
    have : wtP a1 = wtP (a.take i) + wtP (a1.drop i) := by rw [← wtP_append, ← f2]
    omega
/-! pairs -/
theorem pairs_length (l : List Pk) : (pairsP l).length = l.length / 2 := by
  induction l using pairsP.induct with
  | case1 a b r ih => rw [pairsP, List.length_cons, ih]; simp only [List.length_cons]; omega
  | case2 t h =>
    match t, h with
    | [], _ => rfl
    | [a], _ => simp [pairsP]
    | a :: b :: r, h => exact absurd rfl (h a b r)
theorem pairs_take (l : List Pk) (j : Nat) : (pairsP l).take j = pairsP (l.take (2 * j)) := by
  induction l using pairsP.induct generalizing j with
  | case1 a b r ih =>
    cases j with
    | zero => simp [pairsP]
    | succ j => rw [pairsP, List.take_succ_cons, ih j, show 2 * (j + 1) = 2 * j + 1 + 1 by omega, List.take_succ_cons, List.take_succ_cons, pairsP]
  | case2 t h =>
    match t, h with
    | [], _ => simp [pairsP]
    | [a], _ =>
      cases j with
      | zero => simp [pairsP]
      | succ j => rw [show 2 * (j + 1) = 2 * j + 1 + 1 by omega]; simp [pairsP]
    | a :: b :: r, h => exact absurd rfl (h a b r)
theorem pairs_even (l : List Pk) (h : l.length % 2 = 0) : flP (pairsP l) = flP l ∧ wtP (pairsP l) = wtP l ∧ ((∀ e ∈ l, 0 ≤ e.w) → ∀ e ∈ l, ∃ p ∈ pairsP l, e.w ≤ p.w) := by
  induction l using pairsP.induct with
  | case1 a b r ih =>
    obtain ⟨h1, h2, h3⟩ := ih (by simp only [List.length_cons] at h; omega)
    rw [pairsP]
    refine ⟨by rw [flP_cons, flP_cons, flP_cons, h1]; simp, by rw [wtP_cons, wtP_cons, wtP_cons, h2]; show a.w + b.w + _ = _; omega, fun hn e he => ?_⟩
    have ha := hn a List.mem_cons_self
    have hb := hn b (List.mem_cons_of_mem _ List.mem_cons_self)
    rcases List.mem_cons.1 he with rfl | he
    · exact ⟨_, List.mem_cons_self, by show e.w ≤ e.w + b.w; omega⟩
    · rcases List.mem_cons.1 he with rfl | he
      · exact ⟨_, List.mem_cons_self, by show e.w ≤ a.w + e.w; omega⟩
      · obtain ⟨p, hp, hw⟩ := h3 (fun q hq => hn q (List.mem_cons_of_mem _ (List.mem_cons_of_mem _ hq))) e he
        exact ⟨p, List.mem_cons_of_mem _ hp, hw⟩
  | case2 t h' =>
    match t, h' with
    | [], _ => exact ⟨rfl, rfl, fun _ e he => by simp at he⟩
    | [a], _ => simp at h
    | a :: b :: r, h' => exact absurd rfl (h' a b r)
theorem pairs_mem (l : List Pk) : ∀ p ∈ pairsP l, ∃ c ∈ l, ∃ d ∈ l, p.w = c.w + d.w ∧ p.l = c.l ++ d.l := by
  induction l using pairsP.induct with
  | case1 a b r ih =>
    intro p hp
    rw [pairsP] at hp
    rcases List.mem_cons.1 hp with rfl | hp
    · exact ⟨a, List.mem_cons_self, b, List.mem_cons_of_mem _ List.mem_cons_self, rfl, rfl⟩
    · obtain ⟨c, hc, d, hd, h1, h2⟩ := ih p hp
      exact ⟨c, List.mem_cons_of_mem _ (List.mem_cons_of_mem _ hc), d, List.mem_cons_of_mem _ (List.mem_cons_of_mem _ hd), h1, h2⟩
  | case2 t h =>
    match t, h with
    | [], _ => intro p hp; simp [pairsP] at hp
    | [a], _ => intro p hp; simp [pairsP] at hp
    | a :: b :: r, h => exact absurd rfl (h a b r)
theorem pairs_sorted (l : List Pk) (h : Srt l) : Srt (pairsP l) := by
  induction l using pairsP.induct with
  | case1 a b r ih =>
    rw [pairsP]
    have h1 := List.pairwise_cons.1 h
    have h2 := List.pairwise_cons.1 h1.2
    refine List.pairwise_cons.2 ⟨fun p hp => ?_, ih h2.2⟩
    obtain ⟨c, hc, d, hd, e, _⟩ := pairs_mem r p hp
    have := h1.1 c (List.mem_cons_of_mem _ hc)
    have := h2.1 d hd
    show a.w + b.w ≤ p.w
    omega
  | case2 t h' =>
    match t, h' with
    | [], _ => exact List.Pairwise.nil
    | [a], _ => exact List.Pairwise.nil
    | a :: b :: r, h' => exact absurd rfl (h' a b r)
/-! levels -/
theorem lev_sorted (hF : Srt F) (k : Nat) : Srt (lev F k) := by
  induction k with
  | zero => exact hF
  | succ k ih => exact mrg_sorted hF (pairs_sorted _ ih)
theorem lev_length (F : List Pk) (k : Nat) : (lev F (k + 1)).length = F.length + (lev F k).length / 2 := by rw [lev, mrg_length, pairs_length]
theorem lev_nonneg (hF : ∀ p ∈ F, 0 ≤ p.w) (k : Nat) : ∀ p ∈ lev F k, 0 ≤ p.w := by
  induction k with
  | zero => exact hF
  | succ k ih =>
    intro p hp
    rcases List.mem_append.1 ((mrg_perm _ _).mem_iff.1 hp) with h | h
    · exact hF p h
    · obtain ⟨c, hc, d, hd, e, _⟩ := pairs_mem _ p h
      have := ih c hc
      have := ih d hd
      omega
/-- so long a list is there, if there are not too many leaves -/
theorem lev_long (h : F.length ≤ n * 2 ^ k) : 2 * F.length ≤ (lev F k).length + n := by
  induction k generalizing n with
  | zero => rw [Nat.pow_zero, Nat.mul_one] at h; show 2 * F.length ≤ F.length + n; omega
  | succ k ih =>
    have := ih (n := 2 * n) (by rw [Nat.pow_succ] at h; rw [Nat.mul_comm 2 n, Nat.mul_assoc, Nat.mul_comm 2]; exact h)
    rw [lev_length]
    omega
/-- numbers as digits of two -/
def valB : List Nat → Nat
  | [] => 0
  | b :: r => b * 2 ^ r.length + valB r
/-- a beginning of a level: so many leaves of each level -/
theorem lev_chain (hF : Srt F) (h0 : ∀ p ∈ F, 0 ≤ p.w) (k : Nat) : ∀ x, x ≤ (lev F k).length → ∃ A B, (A :: B).length = k + 1 ∧ (∀ b ∈ A :: B, b ≤ F.length) ∧ (A :: B).Pairwise (fun c d => d ≤ c) ∧
    (flP ((lev F k).take x)).Perm ((A :: B).flatMap fun b => flP (F.take b)) ∧ valB (A :: B) = x * 2 ^ k ∧ ∀ e ∈ F.take A, e ∈ (lev F k).take x := by
  induction k with
  | zero =>
    intro x hx
    refine ⟨x, [], rfl, fun b hb => ?_, by simp, ?_, by simp [valB], fun e he => he⟩
    · rcases List.mem_cons.1 hb with rfl | hb
      · exact hx
      · simp at hb
    · show (flP (F.take x)).Perm _
      simp
  | succ k ih =>
    intro x hx
    have hs := pairs_sorted _ (lev_sorted hF k)
    obtain ⟨a1, a2, b1, b2, e1, e2, e3, e4, e5, e6⟩ := mrg_split hF hs (x := x) (by rw [← mrg_length]; exact hx)
    have hb1 : b1.length ≤ (lev F k).length / 2 := by
      rw [← pairs_length, e2, List.length_append]; omega
    have hb1t : b1 = (pairsP (lev F k)).take b1.length := by rw [e2, List.take_left]
    have ha1t : a1 = F.take a1.length := by rw [e1, List.take_left]
    obtain ⟨A, B, g1, g2, g3, g4, g5, g6⟩ := ih (2 * b1.length) (by omega)
    have hev : ((lev F k).take (2 * b1.length)).length % 2 = 0 := by rw [List.length_take]; omega
    obtain ⟨p1, p2, p3⟩ := pairs_even _ hev
    rw [← pairs_take, ← hb1t] at p1 p2 p3
    have hAle : A ≤ a1.length := by
      rcases Nat.lt_or_ge a1.length A with hlt | h
      · exfalso
        have hAn := g2 A List.mem_cons_self
        cases a2 with
        | nil => rw [e1, List.append_nil] at hAn; omega
        | cons q a2 =>
          have hq : q ∈ F.take A := by
            rw [e1, List.take_append]
            refine List.mem_append_right _ ?_
            obtain ⟨z, hz⟩ : ∃ z, A - a1.length = z + 1 := ⟨A - a1.length - 1, by omega⟩
            rw [hz, List.take_succ_cons]
            exact List.mem_cons_self
          obtain ⟨p, hp, hw⟩ := p3 (fun e he => lev_nonneg h0 k e (List.mem_of_mem_take he)) q (g6 q hq)
          have := e5 p hp q List.mem_cons_self
          omega
      · exact h
    refine ⟨a1.length, A :: B, by rw [List.length_cons, g1], fun b hb => ?_, List.pairwise_cons.2 ⟨fun b hb => ?_, g3⟩, ?_, ?_, fun e he => ?_⟩
    · rcases List.mem_cons.1 hb with rfl | hb
      · rw [e1, List.length_append]; omega
      · exact g2 b hb
    · rcases List.mem_cons.1 hb with rfl | hb
      · exact hAle
      · exact Nat.le_trans ((List.pairwise_cons.1 g3).1 b hb) hAle
    · refine (flP_perm e4).trans ?_
      rw [flP_append, List.flatMap_cons, ← ha1t, p1]
      exact List.Perm.append_left _ g4
    · rw [valB, g1, g5, ← e3, Nat.pow_succ, Nat.add_mul]
      congr 1
      rw [Nat.mul_comm 2 b1.length, Nat.mul_assoc, Nat.mul_comm 2]
    · rw [← ha1t] at he
      exact e4.mem_iff.2 (List.mem_append_left _ he)
/-- no choice of leaves weighs less -/
theorem lev_least (hF : Srt F) (h0 : ∀ p ∈ F, 0 ≤ p.w) (k : Nat) : ∀ B : List Nat, B.length = k + 1 → (∀ b ∈ B, b ≤ F.length) → valB B / 2 ^ k ≤ (lev F k).length ∧ wtP ((lev F k).take (valB B / 2 ^ k)) ≤ (B.map fun b => wtP (F.take b)).sum := by
  induction k with
  | zero =>
    intro B hB hb
    match B, hB with
    | [b], _ =>
      have e : valB [b] / 2 ^ 0 = b := by simp [valB]
      rw [e]
      refine ⟨hb b List.mem_cons_self, ?_⟩
      show wtP (F.take b) ≤ _
      simp
  | succ k ih =>
    intro B hB hb
    match B, hB with
    | b :: B, hB =>
      have hB : B.length = k + 1 := by simpa using hB
      obtain ⟨h1, h2⟩ := ih B hB fun c hc => hb c (List.mem_cons_of_mem _ hc)
      obtain ⟨X, hX⟩ : ∃ X, valB B / 2 ^ k = X := ⟨_, rfl⟩
      have e : valB (b :: B) / 2 ^ (k + 1) = b + X / 2 := by
        rw [valB, hB, ← hX, Nat.div_div_eq_div_mul, ← Nat.pow_succ, Nat.add_comm, Nat.add_mul_div_right _ _ (Nat.two_pow_pos _), Nat.add_comm]
      rw [hX] at h1 h2
      have hbn := hb b List.mem_cons_self
      rw [e]
      have hpl : X / 2 ≤ (pairsP (lev F k)).length := by rw [pairs_length]; omega
      refine ⟨by rw [lev_length]; omega, ?_⟩
      have h3 := mrg_least hF (pairs_sorted _ (lev_sorted hF k)) hbn hpl
      have hev : ((lev F k).take (2 * (X / 2))).length % 2 = 0 := by rw [List.length_take]; omega
      have h4 := (pairs_even _ hev).2.1
      rw [← pairs_take] at h4
      have h5 : wtP ((lev F k).take (2 * (X / 2))) ≤ wtP ((lev F k).take X) := by
        have f : (lev F k).take X = (lev F k).take (2 * (X / 2)) ++ ((lev F k).take X).drop (2 * (X / 2)) := by
          have : (lev F k).take (2 * (X / 2)) = ((lev F k).take X).take (2 * (X / 2)) := by rw [List.take_take, Nat.min_eq_left (by omega)]
          rw [this, List.take_append_drop]
        have g : 0 ≤ wtP (((lev F k).take X).drop (2 * (X / 2))) := wtP_nonneg fun p hp => lev_nonneg h0 k p (List.mem_of_mem_take (List.mem_of_mem_drop hp))
        rw [f, wtP_append]
        omega
      rw [List.map_cons, List.sum_cons]
      show wtP ((mrg F (pairsP (lev F k))).take (b + X / 2)) ≤ _
      omega
end
end Go.Proofs.Ytbllgifmidnkhaa
