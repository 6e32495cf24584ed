/-
  Plain law: the steps of a stable sort by blocks: insertion, exchange of neighbouring blocks, merging in place.
-/
import Derived.Test.YtbllgifmidnkhaaBase
namespace Go.Proofs.Ytbllgifmidnkhaa
set_option linter.unusedVariables false
/-- an element: how often, and the slice of its symbols -/
abbrev El := Int × Option Addr × Nat × Nat
def SrtE (l : List El) : Prop := l.Pairwise fun p q => p.1 ≤ q.1
def el (D : List El) (i : Nat) : El := D.getD i (0, none, 0, 0)
section
variable {X Y Q U V U1 U2 V1 V2 Z1 Z2 D : List El} {x y : El} {i j s : Nat}
theorem SrtE.nil_ : SrtE [] := List.Pairwise.nil
theorem srt_app : SrtE (U ++ V) ↔ SrtE U ∧ SrtE V ∧ ∀ p ∈ U, ∀ q ∈ V, p.1 ≤ q.1 := List.pairwise_append
theorem el_app_left (h : i < X.length) : el (X ++ Y) i = el X i := by unfold el; rw [List.getD_eq_getElem?_getD, List.getD_eq_getElem?_getD, List.getElem?_append_left h]
theorem el_app_right (h : X.length ≤ i) : el (X ++ Y) i = el Y (i - X.length) := by unfold el; rw [List.getD_eq_getElem?_getD, List.getD_eq_getElem?_getD, List.getElem?_append_right h]
theorem el_mid (h : i = X.length) : el (X ++ x :: Y) i = x := by subst h; rw [el_app_right (Nat.le_refl _), Nat.sub_self]; rfl
theorem el_mem (h : i < D.length) : el D i ∈ D := by
  unfold el
  rw [List.getD_eq_getElem?_getD, List.getElem?_eq_getElem h]
  exact List.getElem_mem h
/-- two places are exchanged -/
def swp (D : List El) (i j : Nat) : List El := (D.set i (el D j)).set j (el D i)
theorem swp_length : (swp D i j).length = D.length := by simp [swp]
theorem swp_mid (hi : i = X.length) (hj : j = X.length + 1 + Q.length) : swp (X ++ x :: (Q ++ y :: Y)) i j = X ++ y :: (Q ++ x :: Y) := by
  have e1 : el (X ++ x :: (Q ++ y :: Y)) i = x := el_mid hi
  have e2 : el (X ++ x :: (Q ++ y :: Y)) j = y := by
    have : X ++ x :: (Q ++ y :: Y) = (X ++ x :: Q) ++ y :: Y := by simp
    rw [this]
    exact el_mid (by rw [hj]; simp; omega)
  unfold swp
  rw [e1, e2]
  subst hi hj
  have s1 : (X ++ x :: (Q ++ y :: Y)).set X.length y = (X ++ y :: Q) ++ y :: Y := by
    rw [List.set_append_right _ _ (Nat.le_refl _), Nat.sub_self]
    simp
  rw [s1]
  have hl : (X ++ y :: Q).length = X.length + 1 + Q.length := by simp; omega
  rw [← hl, List.set_append_right _ _ (Nat.le_refl _), Nat.sub_self]
  simp
theorem swp_comm (D : List El) (i j : Nat) : swp D i j = swp D j i := by
  unfold swp
  by_cases h : i = j
  · subst h; rfl
  · rw [List.set_comm _ _ h]
theorem swp_mem (hi : i < D.length) (hj : j < D.length) : ∀ p ∈ swp D i j, p ∈ D := fun p hp => by
  unfold swp at hp
  rcases List.mem_or_eq_of_mem_set hp with h | h
  · rcases List.mem_or_eq_of_mem_set h with h | h
    · exact h
    · rw [h]; exact el_mem hj
  · rw [h]; exact el_mem hi
/-- an element goes in front of the greater ones -/
theorem ins_srt (hU : SrtE (U1 ++ U2)) (h2 : ∀ q ∈ U2, x.1 ≤ q.1) (h1 : ∀ p ∈ U1, p.1 ≤ x.1) : SrtE (U1 ++ x :: U2) := by
  obtain ⟨a, b, c⟩ := srt_app.1 hU
  refine srt_app.2 ⟨a, List.pairwise_cons.2 ⟨h2, b⟩, fun p hp q hq => ?_⟩
  rcases List.mem_cons.1 hq with rfl | hq
  · exact h1 p hp
  · exact c p hp q hq
/-- the last of a sorted list is the greatest -/
theorem srt_last (h : SrtE (U ++ [y])) (hy : y.1 ≤ x.1) : ∀ p ∈ U ++ [y], p.1 ≤ x.1 := fun p hp => by
  rcases List.mem_append.1 hp with h1 | h1
  · have := (srt_app.1 h).2.2 p h1 y List.mem_cons_self
    omega
  · rw [List.mem_singleton.1 h1]; exact hy
/-- all of one sorted list stand below another's -/
theorem srt_below (hU : SrtE U) (hV : SrtE V) (h : 0 < U.length → 0 < V.length → (el U (U.length - 1)).1 ≤ (el V 0).1) : ∀ p ∈ U, ∀ q ∈ V, p.1 ≤ q.1 := fun p hp q hq => by
  have h1 : 0 < U.length := List.length_pos_of_mem hp
  have h2 : 0 < V.length := List.length_pos_of_mem hq
  have h3 := h h1 h2
  have hl : p.1 ≤ (el U (U.length - 1)).1 := by
    obtain ⟨U', z, e⟩ : ∃ U' z, U = U' ++ [z] := ⟨U.dropLast, U.getLast (by intro e; rw [e] at h1; simp at h1), by rw [List.dropLast_concat_getLast]⟩
    subst e
    have e2 : el (U' ++ [z]) ((U' ++ [z]).length - 1) = z := el_mid (by simp)
    rw [e2]
    exact srt_last hU (Int.le_refl _) p hp
  have hr : (el V 0).1 ≤ q.1 := by
    cases V with
    | nil => simp at hq
    | cons v V =>
      rcases List.mem_cons.1 hq with rfl | hq
      · exact Int.le_refl _
      · exact (List.pairwise_cons.1 hV).1 q hq
  omega
/-- merging in place: what the two halves are -/
theorem sym_join (hU : SrtE (U1 ++ U2)) (hV : SrtE (V1 ++ V2)) (h1 : Z1.Perm (U1 ++ V1)) (s1 : SrtE Z1) (h2 : Z2.Perm (U2 ++ V2)) (s2 : SrtE Z2)
    (c1 : 0 < U1.length → 0 < V2.length → (el U1 (U1.length - 1)).1 ≤ (el V2 0).1) (c2 : 0 < V1.length → 0 < U2.length → (el V1 (V1.length - 1)).1 ≤ (el U2 0).1) :
    SrtE (Z1 ++ Z2) ∧ (Z1 ++ Z2).Perm ((U1 ++ U2) ++ (V1 ++ V2)) := by
  obtain ⟨u1, u2, u3⟩ := srt_app.1 hU
  obtain ⟨v1, v2, v3⟩ := srt_app.1 hV
  have d1 := srt_below u1 v2 c1
  have d2 := srt_below v1 u2 c2
  refine ⟨srt_app.2 ⟨s1, s2, fun p hp q hq => ?_⟩, ?_⟩
  · rcases List.mem_append.1 (h1.mem_iff.1 hp) with hp | hp <;> rcases List.mem_append.1 (h2.mem_iff.1 hq) with hq | hq
    · exact u3 p hp q hq
    · exact d1 p hp q hq
    · exact d2 p hp q hq
    · exact v3 p hp q hq
  · refine (h1.append h2).trans ?_
    have e1 : (U1 ++ V1) ++ (U2 ++ V2) = U1 ++ ((V1 ++ U2) ++ V2) := by simp
    have e2 : (U1 ++ U2) ++ (V1 ++ V2) = U1 ++ ((U2 ++ V1) ++ V2) := by simp
    rw [e1, e2]
    exact List.Perm.append_left _ (List.Perm.append_right _ List.perm_append_comm)
/-! blocks -/
inductive Chk (s : Nat) : List El → Prop
  | last {c : List El} : c.length ≤ s → SrtE c → Chk s c
  | more {c D : List El} : c.length = s → SrtE c → Chk s D → Chk s (c ++ D)
/-- whole blocks -/
def Pre (s : Nat) (P : List El) : Prop := ∀ R, Chk s R → Chk s (P ++ R)
theorem Pre.nil_ (s : Nat) : Pre s [] := fun R h => h
theorem Pre.more {P c : List El} (h : Pre s P) (hc : c.length = s) (hs : SrtE c) : Pre s (P ++ c) := fun R hR => by
  rw [List.append_assoc]
  exact h _ (.more hc hs hR)
theorem Chk.srt (h : Chk s D) (hl : D.length ≤ s) : SrtE D := by
  cases h with
  | last _ h => exact h
  | @more c D hc hs hD =>
    have : D = [] := List.eq_nil_of_length_eq_zero (by rw [List.length_append] at hl; omega)
    rw [this, List.append_nil]; exact hs
/-- the first block, and the rest -/
theorem Chk.head (h : Chk s D) (hl : s ≤ D.length) : ∃ c R, D = c ++ R ∧ c.length = s ∧ SrtE c ∧ Chk s R := by
  cases h with
  | last h1 h2 => exact ⟨D, [], by simp, by omega, h2, .last (Nat.zero_le _) SrtE.nil_⟩
  | @more c R hc hs hD => exact ⟨c, R, rfl, hc, hs, hD⟩
end
end Go.Proofs.Ytbllgifmidnkhaa
