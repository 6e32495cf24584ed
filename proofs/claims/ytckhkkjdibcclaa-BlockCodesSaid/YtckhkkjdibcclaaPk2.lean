/-
  Several texts in one (written by pack2.py): Tree, SrtP, LimP.
-/
import Derived.Test.YtckhkkjdibcclaaPk1
/-
  Plain law: the codes of lengths lie behind each other: no code begins another one, each fits its length, the order, and (where the lengths fill everything) any 15 bits begin with just one.
-/
namespace Go.Proofs.Ytckhkkjdibcclaa

/-- what the lengths 1 .. m of the first k symbols take -/
def tot (l : List Int) (k : Nat) : Nat → Nat
  | 0 => 0
  | m + 1 => tot l k m + cnt l k (m + 1) * p15 (m + 1)
theorem tot_step (l : List Int) (k m : Nat) : tot l (k + 1) m = tot l k m + if 1 ≤ ix l k ∧ ix l k ≤ m then p15 (ix l k).toNat else 0 := by
  induction m with
  | zero => simp [tot]; omega
  | succ m ih =>
    simp only [tot, cnt, ih]
    by_cases h : ix l k = ((m + 1 : Nat) : Int)
    · rw [if_pos h, if_neg (by omega), if_pos (by omega), h, Int.toNat_natCast, Nat.add_mul]
      omega
    · simp only [if_neg h, Nat.add_zero]
      by_cases h2 : 1 ≤ ix l k ∧ ix l k ≤ m
      · have h3 : 1 ≤ ix l k ∧ ix l k ≤ ((m + 1 : Nat) : Int) := by omega
        simp only [if_pos h2, if_pos h3]; omega
      · have h3 : ¬ (1 ≤ ix l k ∧ ix l k ≤ ((m + 1 : Nat) : Int)) := by omega
        simp only [if_neg h2, if_neg h3]; omega
theorem tot_sum (l : List Int) (k : Nat) : tot l k 15 = sumTo l k := by
  induction k with
  | zero => simp [tot, cnt, sumTo]
  | succ k ih =>
    rw [tot_step, ih]
    show _ = sumTo l k + share (ix l k)
    congr 1
    unfold share isLen
    by_cases h : 1 ≤ ix l k ∧ ix l k ≤ 15
    · rw [if_pos (by simpa using h), if_pos (by simpa using h)]
    · rw [if_neg (by simpa using h), if_neg (by simpa using h)]
theorem tot_mono (l : List Int) (k : Nat) {m m' : Nat} (h : m ≤ m') : tot l k m ≤ tot l k m' := by
  induction m' with
  | zero => have : m = 0 := by omega
            subst this; omega
  | succ q ih =>
    by_cases e : m = q + 1
    · subst e; omega
    · have := ih (by omega); simp only [tot]; omega
theorem nxt_tot (l : List Int) (v : Nat) (h1 : 1 ≤ v) (h2 : v ≤ 15) : nxt l v * p15 v = tot l l.length (v - 1) := by
  induction v with
  | zero => omega
  | succ v ih =>
    rcases v with _ | v
    · simp [nxt, tot]
    · have hi := ih (by omega) (by omega)
      have hp := p15_half (v := v + 1) (by omega)
      simp only [Nat.add_sub_cancel] at hi ⊢
      show 2 * (nxt l (v + 1) + cnt l l.length (v + 1)) * p15 (v + 1 + 1) = tot l l.length v + cnt l l.length (v + 1) * p15 (v + 1)
      rw [← hi, hp, ← Nat.add_mul, Nat.mul_comm 2 (nxt l (v + 1) + cnt l l.length (v + 1)), Nat.mul_assoc]
/-- where symbol i's code begins among the 32768 -/
def placeOf (l : List Int) (i : Nat) : Nat := codeAt l i * p15 (ix l i).toNat
theorem placeOf_eq {l : List Int} {i v : Nat} (h1 : 1 ≤ v) (h2 : v ≤ 15) (e : ix l i = v) : placeOf l i = tot l l.length (v - 1) + cnt l i v * p15 v := by
  unfold placeOf codeAt isLen
  rw [e, if_pos (by simp; omega), Int.toNat_natCast, Nat.add_mul, nxt_tot l v h1 h2]
theorem cnt_strict {l : List Int} {i k v : Nat} (h : i < k) (e : ix l i = v) : cnt l i v + 1 ≤ cnt l k v := by
  have h1 : cnt l (i + 1) v = cnt l i v + 1 := by simp [cnt, e]
  have h2 := cnt_mono l v (show i + 1 ≤ k by omega)
  omega
theorem place_end {l : List Int} {i v : Nat} (h1 : 1 ≤ v) (h2 : v ≤ 15) (e : ix l i = v) (hi : i < l.length) : placeOf l i + p15 v ≤ tot l l.length v := by
  rw [placeOf_eq h1 h2 e]
  obtain ⟨u, rfl⟩ : ∃ u, v = u + 1 := ⟨v - 1, by omega⟩
  have hc := cnt_strict hi e
  have : (cnt l i (u + 1) + 1) * p15 (u + 1) ≤ cnt l l.length (u + 1) * p15 (u + 1) := Nat.mul_le_mul_right _ hc
  rw [Nat.add_mul] at this
  simp only [tot, Nat.add_sub_cancel]
  omega
theorem p15_mul {u v : Nat} (h : u ≤ v) (hv : v ≤ 15) : p15 u = 2 ^ (v - u) * p15 v := by
  unfold p15
  rw [← Nat.pow_add]; congr 1; omega
/-- of two symbols of one length -/
theorem place_same {l : List Int} {i k v : Nat} (h1 : 1 ≤ v) (h2 : v ≤ 15) (ei : ix l i = v) (ek : ix l k = v) (h : i < k) : codeAt l i < codeAt l k := by
  rw [codeAt, codeAt, ei, ek, if_pos (by simp [isLen]; omega), if_pos (by simp [isLen]; omega), Int.toNat_natCast]
  have := cnt_strict h ei
  omega
/-- of a shorter and a longer one -/
theorem place_less {l : List Int} {i k u v : Nat} (h1 : 1 ≤ u) (huv : u < v) (h2 : v ≤ 15) (ei : ix l i = u) (ek : ix l k = v) (hi : i < l.length) : (codeAt l i + 1) * 2 ^ (v - u) ≤ codeAt l k := by
  have a := place_end h1 (by omega) ei hi
  have b : tot l l.length u ≤ placeOf l k := by
    rw [placeOf_eq (by omega) h2 ek]
    have := tot_mono l l.length (show u ≤ v - 1 by omega)
    omega
  unfold placeOf at a b
  rw [ei, Int.toNat_natCast, p15_mul (Nat.le_of_lt huv) h2] at a
  rw [ek, Int.toNat_natCast] at b
  have c : (codeAt l i + 1) * 2 ^ (v - u) * p15 v ≤ codeAt l k * p15 v := by
    rw [Nat.add_mul, Nat.add_mul, Nat.one_mul, Nat.mul_assoc]
    omega
  exact Nat.le_of_mul_le_mul_right c (p15_bd v).1
theorem code_fits {l : List Int} {i v : Nat} (h1 : 1 ≤ v) (h2 : v ≤ 15) (e : ix l i = v) (hi : i < l.length) (hS : sumTo l l.length ≤ 32768) : codeAt l i < 2 ^ v := by
  have a := place_end h1 h2 e hi
  have b := tot_mono l l.length h2
  rw [tot_sum] at b
  unfold placeOf at a
  rw [e, Int.toNat_natCast] at a
  have c : (codeAt l i + 1) * p15 v ≤ 2 ^ v * p15 v := by
    have := p15_mul (Nat.zero_le v) h2
    rw [p15_zero, Nat.sub_zero] at this
    rw [Nat.add_mul]; omega
  have := Nat.le_of_mul_le_mul_right c (p15_bd v).1
  omega
theorem no_prefix {l : List Int} {i k u v : Nat} (h1 : 1 ≤ u) (huv : u ≤ v) (h2 : v ≤ 15) (ei : ix l i = u) (ek : ix l k = v) (hi : i < l.length) (hne : k ≠ i) : codeAt l k / 2 ^ (v - u) ≠ codeAt l i := by
  intro h
  by_cases e : u = v
  · subst e
    rw [Nat.sub_self, Nat.pow_zero, Nat.div_one] at h
    rcases Nat.lt_or_ge i k with h' | h'
    · have := place_same h1 h2 ei ek h'; omega
    · have := place_same h1 h2 ek ei (by omega); omega
  · have a := place_less h1 (by omega) h2 ei ek hi
    have : codeAt l i + 1 ≤ codeAt l k / 2 ^ (v - u) := (Nat.le_div_iff_mul_le (Nat.two_pow_pos _)).2 a
    omega

/-- do the 15 bits x begin with symbol i's code? -/
def hits (l : List Int) (x i : Nat) : Bool := isLen (ix l i) && decide (x / p15 (ix l i).toNat = codeAt l i)
def hitsTo (l : List Int) (x : Nat) : Nat → Nat
  | 0 => 0
  | k + 1 => hitsTo l x k + if hits l x k then 1 else 0
theorem hits_iff {l : List Int} {x i v : Nat} (h1 : 1 ≤ v) (h2 : v ≤ 15) (e : ix l i = v) : hits l x i = true ↔ placeOf l i ≤ x ∧ x < placeOf l i + p15 v := by
  unfold hits isLen placeOf
  rw [e, Int.toNat_natCast]
  have hp := (p15_bd v).1
  simp only [Bool.and_eq_true, decide_eq_true_eq]
  rw [Nat.div_eq_iff (by omega)]
  rw [show codeAt l i * p15 v + p15 v = codeAt l i * p15 v + p15 v from rfl]
  omega
theorem hits_len {l : List Int} {x i : Nat} (h : hits l x i = true) : ∃ v : Nat, 1 ≤ v ∧ v ≤ 15 ∧ ix l i = v := by
  unfold hits isLen at h
  simp only [Bool.and_eq_true, decide_eq_true_eq] at h
  exact ⟨(ix l i).toNat, by omega, by omega, by omega⟩
theorem hits_one {l : List Int} {x i k : Nat} (hi : i < l.length) (hk : k < l.length) (h : hits l x i = true) (h' : hits l x k = true) : i = k := by
  obtain ⟨u, u1, u2, eu⟩ := hits_len h
  obtain ⟨v, v1, v2, ev⟩ := hits_len h'
  have a := (hits_iff u1 u2 eu).1 h
  have b := (hits_iff v1 v2 ev).1 h'
  have key : ∀ {i k u v : Nat}, 1 ≤ u → u < v → v ≤ 15 → ix l i = (u : Int) → ix l k = (v : Int) → i < l.length → placeOf l i + p15 u ≤ placeOf l k := by
    intro i k u v h1 huv h2 ei ek hi
    have a := place_end h1 (by omega) ei hi
    have := tot_mono l l.length (show u ≤ v - 1 by omega)
    rw [placeOf_eq (by omega) h2 ek]
    omega
  have key2 : ∀ {i k v : Nat}, 1 ≤ v → v ≤ 15 → ix l i = (v : Int) → ix l k = (v : Int) → i < k → placeOf l i + p15 v ≤ placeOf l k := by
    intro i k v h1 h2 ei ek h
    rw [placeOf_eq h1 h2 ei, placeOf_eq h1 h2 ek]
    have : (cnt l i v + 1) * p15 v ≤ cnt l k v * p15 v := Nat.mul_le_mul_right _ (cnt_strict h ei)
    rw [Nat.add_mul] at this
    omega
  rcases Nat.lt_trichotomy u v with huv | huv | huv
  · have := key u1 huv v2 eu ev hi; omega
  · subst huv
    rcases Nat.lt_trichotomy i k with h3 | h3 | h3
    · have := key2 u1 u2 eu ev h3; omega
    · exact h3
    · have := key2 u1 u2 ev eu h3; omega
  · have := key v1 huv u2 ev eu hk; omega
theorem cnt_ivt (l : List Int) (v q : Nat) : ∀ k, q < cnt l k v → ∃ i, i < k ∧ ix l i = v ∧ cnt l i v = q := by
  intro k
  induction k with
  | zero => intro h; simp [cnt] at h
  | succ k ih =>
    intro h
    by_cases h' : q < cnt l k v
    · obtain ⟨i, a, b⟩ := ih h'
      exact ⟨i, by omega, b⟩
    · by_cases e : ix l k = v
      · refine ⟨k, by omega, e, ?_⟩
        simp [cnt, e] at h; omega
      · simp [cnt, e] at h; omega
theorem hits_some {l : List Int} {x : Nat} (hS : sumTo l l.length = 32768) (hx : x < 32768) : ∃ i, i < l.length ∧ hits l x i = true := by
  have : ∀ m, m ≤ 15 → x < tot l l.length m → ∃ v : Nat, 1 ≤ v ∧ v ≤ m ∧ tot l l.length (v - 1) ≤ x ∧ x < tot l l.length v := by
    intro m
    induction m with
    | zero => intro _ h; simp [tot] at h
    | succ m ih =>
      intro hm h
      by_cases h' : x < tot l l.length m
      · obtain ⟨v, a, b, c⟩ := ih (by omega) h'
        exact ⟨v, a, by omega, c⟩
      · exact ⟨m + 1, by omega, by omega, by simpa using h', h⟩
  obtain ⟨v, v1, v2, a, b⟩ := this 15 (by omega) (by rw [tot_sum, hS]; exact hx)
  obtain ⟨u, rfl⟩ : ∃ u, v = u + 1 := ⟨v - 1, by omega⟩
  simp only [Nat.add_sub_cancel] at a
  simp only [tot] at b
  have hp := (p15_bd (u + 1)).1
  have hq : (x - tot l l.length u) / p15 (u + 1) < cnt l l.length (u + 1) := by
    rw [Nat.div_lt_iff_lt_mul (by omega)]; omega
  obtain ⟨i, hi, e, hc⟩ := cnt_ivt l (u + 1) _ _ hq
  refine ⟨i, hi, (hits_iff v1 v2 e).2 ?_⟩
  rw [placeOf_eq v1 v2 e, hc]
  simp only [Nat.add_sub_cancel]
  have h1 := Nat.div_mul_le_self (x - tot l l.length u) (p15 (u + 1))
  have h2 := Nat.lt_div_mul_add (a := x - tot l l.length u) (b := p15 (u + 1)) (by omega)
  omega
theorem hitsTo_bd (l : List Int) (x k : Nat) : hitsTo l x k ≤ k := by
  induction k with
  | zero => simp [hitsTo]
  | succ k ih => simp only [hitsTo]; split <;> omega
theorem hitsTo_one {l : List Int} {x : Nat} (hS : sumTo l l.length = 32768) (hx : x < 32768) : hitsTo l x l.length = 1 := by
  obtain ⟨i, hi, hh⟩ := hits_some hS hx
  have : ∀ k, k ≤ l.length → hitsTo l x k = if i < k then 1 else 0 := by
    intro k
    induction k with
    | zero => intro _; simp [hitsTo]
    | succ k ih =>
      intro hk
      simp only [hitsTo, ih (by omega)]
      by_cases e : i = k
      · subst e; rw [hh]; simp
      · have : hits l x k = false := by
          rw [← Bool.not_eq_true]
          intro h'
          exact e (hits_one hi (by omega) hh h')
        rw [this]
        by_cases h3 : i < k
        · have h4 : i < k + 1 := by omega
          simp [h3, h4]
        · have h4 : ¬ i < k + 1 := by omega
          simp [h3, h4]
  rw [this _ (Nat.le_refl _), if_pos hi]
/-- what Check at 15 says of lengths -/
theorem check_ok {l : List Int} (h : checkOf l 15 = 0) : l.length ≤ 288 ∧ (∀ i, i < l.length → 0 ≤ ix l i ∧ ix l i ≤ 15) ∧ sumTo l l.length ≤ 32768 ∧ (sumTo l l.length = 32768 ∨ aloneB l l.length = true) := by
  unfold checkOf at h
  split at h
  · simp at h
  · split at h
    · simp at h
    · split at h
      · simp at h
      · rename_i h1 h2 h3
        refine ⟨by omega, ?_, by omega, ?_⟩
        · have : inTo l 15 l.length = true := by simpa using h2
          simpa [inTo] using this
        · rcases Nat.lt_or_ge (sumTo l l.length) 32768 with h4 | h4
          · right
            cases ha : aloneB l l.length
            · exact absurd (Or.inr ⟨h4, ha⟩) h3
            · rfl
          · left; omega
theorem alone_count {l : List Int} (h : aloneB l l.length = true) : posTo l l.length ≤ 1 := by
  unfold aloneB at h
  simp only [Bool.and_eq_true, decide_eq_true_eq] at h
  exact h.2
end Go.Proofs.Ytckhkkjdibcclaa

/-
  Plain law: the steps of a stable sort by blocks: insertion, exchange of neighbouring blocks, merging in place.
-/
namespace Go.Proofs.Ytckhkkjdibcclaa
set_option linter.unusedVariables false
/-- an element: how often, and the slice of its symbols -/
abbrev El := Int × Option Addr × Nat × Nat
/-- where an element's symbols lie: the later of two equal elements lies behind -/
def ps (e : El) : Nat := match e.2.1 with
  | some a => a.block
  | none => 0
def LeE (p q : El) : Prop := p.1 < q.1 ∨ (p.1 = q.1 ∧ ps p ≤ ps q)
theorem LeE.le {p q : El} (h : LeE p q) : p.1 ≤ q.1 := by rcases h with h | h <;> omega
theorem LeE.rfl' (p : El) : LeE p p := .inr ⟨rfl, Nat.le_refl _⟩
theorem LeE.trans {p q r : El} (h : LeE p q) (h' : LeE q r) : LeE p r := by
  rcases h with h | ⟨h, h2⟩ <;> rcases h' with h' | ⟨h', h2'⟩
  · exact .inl (by omega)
  · exact .inl (by omega)
  · exact .inl (by omega)
  · exact .inr ⟨by omega, by omega⟩
theorem LeE.of_le {p q : El} (h : p.1 ≤ q.1) (hs : ps p ≤ ps q) : LeE p q := by
  rcases Int.lt_or_eq_of_le h with h | h
  · exact .inl h
  · exact .inr ⟨h, hs⟩
def SrtE (l : List El) : Prop := l.Pairwise LeE
/-- all of the one lie ahead of all of the other -/
def Sep (U V : List El) : Prop := ∀ p ∈ U, ∀ q ∈ V, ps p ≤ ps q
def Asc (l : List El) : Prop := l.Pairwise fun p q => ps p ≤ ps q
theorem Sep.perm {U V U' V' : List El} (h : Sep U V) (hU : U'.Perm U) (hV : V'.Perm V) : Sep U' V' := fun p hp q hq => h p (hU.mem_iff.1 hp) q (hV.mem_iff.1 hq)
theorem Sep.sub {U V U' V' : List El} (h : Sep U V) (hU : ∀ p ∈ U', p ∈ U) (hV : ∀ p ∈ V', p ∈ V) : Sep U' V' := fun p hp q hq => h p (hU p hp) q (hV q hq)
theorem Sep.app {U V W : List El} (h : Sep U W) (h' : Sep V W) : Sep (U ++ V) W := fun p hp q hq => by
  rcases List.mem_append.1 hp with hp | hp
  · exact h p hp q hq
  · exact h' p hp q hq
theorem Sep.app' {U V W : List El} (h : Sep W U) (h' : Sep W V) : Sep W (U ++ V) := fun p hp q hq => by
  rcases List.mem_append.1 hq with hq | hq
  · exact h p hp q hq
  · exact h' p hp q hq
theorem Sep.nil_ (U : List El) : Sep U [] := fun p _ q hq => by simp at hq
theorem Sep.nil' (U : List El) : Sep [] U := fun p hp => by simp at hp
theorem asc_app {U V : List El} : Asc (U ++ V) ↔ Asc U ∧ Asc V ∧ Sep U V := List.pairwise_append
theorem sep_push {U V W : List El} {x : El} (h : Sep U (x :: V) ∧ Asc (x :: V)) (hw : ∀ p ∈ W, p = x ∨ p ∈ U) : Sep W V ∧ Asc V := by
  obtain ⟨a1, a2⟩ := List.pairwise_cons.1 h.2
  refine ⟨fun p hp q hq => ?_, a2⟩
  rcases hw p hp with rfl | hp
  · exact a1 q hq
  · exact h.1 p hp q (List.mem_cons_of_mem _ hq)
def el (D : List El) (i : Nat) : El := D.getD i (0, none, 0, 0)
section
variable {X Y Q U V U1 U2 V1 V2 Z1 Z2 D : List El} {x y : El} {i j s : Nat}
theorem SrtE.nil_ : SrtE [] := List.Pairwise.nil
theorem srt_app : SrtE (U ++ V) ↔ SrtE U ∧ SrtE V ∧ ∀ p ∈ U, ∀ q ∈ V, LeE p q := List.pairwise_append
theorem el_app_left (h : i < X.length) : el (X ++ Y) i = el X i := by unfold el; rw [List.getD_eq_getElem?_getD, List.getD_eq_getElem?_getD, List.getElem?_append_left h]
theorem el_app_right (h : X.length ≤ i) : el (X ++ Y) i = el Y (i - X.length) := by unfold el; rw [List.getD_eq_getElem?_getD, List.getD_eq_getElem?_getD, List.getElem?_append_right h]
theorem el_mid (h : i = X.length) : el (X ++ x :: Y) i = x := by subst h; rw [el_app_right (Nat.le_refl _), Nat.sub_self]; rfl
theorem el_mem (h : i < D.length) : el D i ∈ D := by
  unfold el
  rw [List.getD_eq_getElem?_getD, List.getElem?_eq_getElem h]
  exact List.getElem_mem h
/-- two places are exchanged -/
def swp (D : List El) (i j : Nat) : List El := (D.set i (el D j)).set j (el D i)
theorem swp_length : (swp D i j).length = D.length := by simp [swp]
theorem swp_mid (hi : i = X.length) (hj : j = X.length + 1 + Q.length) : swp (X ++ x :: (Q ++ y :: Y)) i j = X ++ y :: (Q ++ x :: Y) := by
  have e1 : el (X ++ x :: (Q ++ y :: Y)) i = x := el_mid hi
  have e2 : el (X ++ x :: (Q ++ y :: Y)) j = y := by
    have : X ++ x :: (Q ++ y :: Y) = (X ++ x :: Q) ++ y :: Y := by simp
    rw [this]
    exact el_mid (by rw [hj]; simp; omega)
  unfold swp
  rw [e1, e2]
  subst hi hj
  have s1 : (X ++ x :: (Q ++ y :: Y)).set X.length y = (X ++ y :: Q) ++ y :: Y := by
    rw [List.set_append_right _ _ (Nat.le_refl _), Nat.sub_self]
    simp
  rw [s1]
  have hl : (X ++ y :: Q).length = X.length + 1 + Q.length := by simp; omega
  rw [← hl, List.set_append_right _ _ (Nat.le_refl _), Nat.sub_self]
  simp
theorem swp_comm (D : List El) (i j : Nat) : swp D i j = swp D j i := by
  unfold swp
  by_cases h : i = j
  · subst h; rfl
  · rw [List.set_comm _ _ h]
theorem swp_mem (hi : i < D.length) (hj : j < D.length) : ∀ p ∈ swp D i j, p ∈ D := fun p hp => by
  unfold swp at hp
  rcases List.mem_or_eq_of_mem_set hp with h | h
  · rcases List.mem_or_eq_of_mem_set h with h | h
    · exact h
    · rw [h]; exact el_mem hj
  · rw [h]; exact el_mem hi
/-- an element goes in front of the greater ones -/
theorem ins_srt (hU : SrtE (U1 ++ U2)) (h2 : ∀ q ∈ U2, LeE x q) (h1 : ∀ p ∈ U1, LeE p x) : SrtE (U1 ++ x :: U2) := by
  obtain ⟨a, b, c⟩ := srt_app.1 hU
  refine srt_app.2 ⟨a, List.pairwise_cons.2 ⟨h2, b⟩, fun p hp q hq => ?_⟩
  rcases List.mem_cons.1 hq with rfl | hq
  · exact h1 p hp
  · exact c p hp q hq
/-- the last of a sorted list is the greatest -/
theorem srt_last (h : SrtE (U ++ [y])) (hy : LeE y x) : ∀ p ∈ U ++ [y], LeE p x := fun p hp => by
  rcases List.mem_append.1 hp with h1 | h1
  · exact ((srt_app.1 h).2.2 p h1 y List.mem_cons_self).trans hy
  · rw [List.mem_singleton.1 h1]; exact hy
/-- all of one sorted list stand below another's -/
theorem srt_below (hU : SrtE U) (hV : SrtE V) (h : 0 < U.length → 0 < V.length → LeE (el U (U.length - 1)) (el V 0)) : ∀ p ∈ U, ∀ q ∈ V, LeE p q := fun p hp q hq => by
  have h1 : 0 < U.length := List.length_pos_of_mem hp
  have h2 : 0 < V.length := List.length_pos_of_mem hq
  have h3 := h h1 h2
  have hl : LeE p (el U (U.length - 1)) := by
    obtain ⟨U', z, e⟩ : ∃ U' z, U = U' ++ [z] := ⟨U.dropLast, U.getLast (by intro e; rw [e] at h1; simp at h1), by rw [List.dropLast_concat_getLast]⟩
    subst e
    have e2 : el (U' ++ [z]) ((U' ++ [z]).length - 1) = z := el_mid (by simp)
    rw [e2]
    exact srt_last hU (LeE.rfl' _) p hp
  have hr : LeE (el V 0) q := by
    cases V with
    | nil => simp at hq
    | cons v V =>
      rcases List.mem_cons.1 hq with rfl | hq
      · exact LeE.rfl' _
      · exact (List.pairwise_cons.1 hV).1 q hq
  exact hl.trans (h3.trans hr)
/-- merging in place: what the two halves are -/
theorem sym_join (hU : SrtE (U1 ++ U2)) (hV : SrtE (V1 ++ V2)) (h1 : Z1.Perm (U1 ++ V1)) (s1 : SrtE Z1) (h2 : Z2.Perm (U2 ++ V2)) (s2 : SrtE Z2)
    (c1 : 0 < U1.length → 0 < V2.length → LeE (el U1 (U1.length - 1)) (el V2 0)) (c2 : 0 < V1.length → 0 < U2.length → LeE (el V1 (V1.length - 1)) (el U2 0)) :
    SrtE (Z1 ++ Z2) ∧ (Z1 ++ Z2).Perm ((U1 ++ U2) ++ (V1 ++ V2)) := by
  obtain ⟨u1, u2, u3⟩ := srt_app.1 hU
  obtain ⟨v1, v2, v3⟩ := srt_app.1 hV
  have d1 := srt_below u1 v2 c1
  have d2 := srt_below v1 u2 c2
  refine ⟨srt_app.2 ⟨s1, s2, fun p hp q hq => ?_⟩, ?_⟩
  · rcases List.mem_append.1 (h1.mem_iff.1 hp) with hp | hp <;> rcases List.mem_append.1 (h2.mem_iff.1 hq) with hq | hq
    · exact u3 p hp q hq
    · exact d1 p hp q hq
    · exact d2 p hp q hq
    · exact v3 p hp q hq
  · refine (h1.append h2).trans ?_
    have e1 : (U1 ++ V1) ++ (U2 ++ V2) = U1 ++ ((V1 ++ U2) ++ V2) := by simp
    have e2 : (U1 ++ U2) ++ (V1 ++ V2) = U1 ++ ((U2 ++ V1) ++ V2) := by simp
    rw [e1, e2]
    exact List.Perm.append_left _ (List.Perm.append_right _ List.perm_append_comm)
/-! blocks -/
inductive Chk (s : Nat) : List El → Prop
  | last {c : List El} : c.length ≤ s → SrtE c → Chk s c
  | more {c D : List El} : c.length = s → SrtE c → Sep c D → Chk s D → Chk s (c ++ D)
/-- whole blocks -/
def Pre (s : Nat) (P : List El) : Prop := ∀ R, Chk s R → Sep P R → Chk s (P ++ R)
theorem Pre.nil_ (s : Nat) : Pre s [] := fun R h _ => h
theorem Pre.more {P c : List El} (h : Pre s P) (hc : c.length = s) (hs : SrtE c) (hsp : Sep P c) : Pre s (P ++ c) := fun R hR hse => by
  rw [List.append_assoc]
  exact h _ (.more hc hs (hse.sub (fun p hp => List.mem_append_right _ hp) fun p hp => hp) hR) (hsp.app' (hse.sub (fun p hp => List.mem_append_left _ hp) fun p hp => hp))
theorem Chk.srt (h : Chk s D) (hl : D.length ≤ s) : SrtE D := by
  cases h with
  | last _ h => exact h
  | @more c D hc hs hse hD =>
    have : D = [] := List.eq_nil_of_length_eq_zero (by rw [List.length_append] at hl; omega)
    rw [this, List.append_nil]; exact hs
/-- the first block, and the rest -/
theorem Chk.head (h : Chk s D) (hl : s ≤ D.length) : ∃ c R, D = c ++ R ∧ c.length = s ∧ SrtE c ∧ Chk s R ∧ Sep c R := by
  cases h with
  | last h1 h2 => exact ⟨D, [], by simp, by omega, h2, .last (Nat.zero_le _) SrtE.nil_, Sep.nil_ _⟩
  | @more c R hc hs hse hD => exact ⟨c, R, rfl, hc, hs, hD, hse⟩
end
end Go.Proofs.Ytckhkkjdibcclaa

/-
  Plain law: package-merge. Lists of packs that are merged level by level; how many leaves stand in a beginning of each level; the lengths that come of it are a whole code's, and cost least.
-/
namespace Go.Proofs.Ytckhkkjdibcclaa
set_option linter.unusedVariables false
/-- some symbols together, and how often all of them come -/
structure Pk where
  w : Int
  l : List Int
def pairsP : List Pk → List Pk
  | a :: b :: r => ⟨a.w + b.w, a.l ++ b.l⟩ :: pairsP r
  | _ => []
def mrg : List Pk → List Pk → List Pk
  | [], bs => bs
  | a :: as, [] => a :: as
  | a :: as, b :: bs => if b.w < a.w then b :: mrg (a :: as) bs else a :: mrg as (b :: bs)
termination_by as bs => as.length + bs.length
def lev (F : List Pk) : Nat → List Pk
  | 0 => F
  | k + 1 => mrg F (pairsP (lev F k))
def wtP (l : List Pk) : Int := (l.map Pk.w).sum
def flP (l : List Pk) : List Int := l.flatMap Pk.l
def Srt (l : List Pk) : Prop := l.Pairwise fun p q => p.w ≤ q.w
section
variable {a b l F : List Pk} {p q e : Pk} {k j x n m : Nat}
theorem mrg_nil (a : List Pk) : mrg a [] = a := by cases a <;> simp [mrg]
theorem nil_mrg (a : List Pk) : mrg [] a = a := by simp [mrg]
theorem mrg_perm (a b : List Pk) : (mrg a b).Perm (a ++ b) := by
  induction a generalizing b with
  | nil => rw [nil_mrg]; exact List.Perm.refl _
  | cons p as iha =>
    induction b with
    | nil => rw [mrg_nil, List.append_nil]
    | cons q bs ihb =>
      rw [mrg]
      split
      · exact (List.Perm.cons q ihb).trans List.perm_middle.symm
      · exact List.Perm.cons p (iha (q :: bs))
theorem mrg_length (a b : List Pk) : (mrg a b).length = a.length + b.length := by rw [(mrg_perm a b).length_eq, List.length_append]
theorem mrg_sorted (ha : Srt a) (hb : Srt b) : Srt (mrg a b) := by
  induction a generalizing b with
  | nil => rw [nil_mrg]; exact hb
  | cons p as iha =>
    induction b with
    | nil => rw [mrg_nil]; exact ha
    | cons q bs ihb =>
      have h1 := List.pairwise_cons.1 ha
      have h2 := List.pairwise_cons.1 hb
      rw [mrg]
      split <;> rename_i hw
      · refine List.pairwise_cons.2 ⟨fun r hr => ?_, ihb h2.2⟩
        rcases List.mem_append.1 ((mrg_perm _ _).mem_iff.1 hr) with h | h
        · rcases List.mem_cons.1 h with rfl | h
          · omega
          · have := h1.1 r h; omega
        · exact h2.1 r h
      · refine List.pairwise_cons.2 ⟨fun r hr => ?_, iha h1.2 hb⟩
        rcases List.mem_append.1 ((mrg_perm _ _).mem_iff.1 hr) with h | h
        · exact h1.1 r h
        · rcases List.mem_cons.1 h with rfl | h
          · omega
          · have := h2.1 r h; omega
/-- a beginning of the merged list: beginnings of both -/
theorem mrg_split (ha : Srt a) (hb : Srt b) (hx : x ≤ a.length + b.length) :
    ∃ a1 a2 b1 b2, a = a1 ++ a2 ∧ b = b1 ++ b2 ∧ a1.length + b1.length = x ∧ ((mrg a b).take x).Perm (a1 ++ b1) ∧ (∀ p ∈ b1, ∀ q ∈ a2, p.w < q.w) ∧ (∀ p ∈ a1, ∀ q ∈ b2, p.w ≤ q.w) := by
  induction x generalizing a b with
  | zero => exact ⟨[], a, [], b, rfl, rfl, rfl, by simp, by simp, by simp⟩
  | succ x ih =>
    cases a with
    | nil =>
      refine ⟨[], [], b.take (x + 1), b.drop (x + 1), rfl, (List.take_append_drop ..).symm, ?_, by rw [nil_mrg]; simp, by simp, by simp⟩
      simp only [List.length_nil, List.length_take] at hx ⊢
      omega
    | cons p as =>
      cases b with
      | nil =>
        refine ⟨(p :: as).take (x + 1), (p :: as).drop (x + 1), [], [], (List.take_append_drop ..).symm, rfl, ?_, by rw [mrg_nil]; simp, by simp, by simp⟩
        simp only [List.length_nil, List.length_take] at hx ⊢
        omega
      | cons q bs =>
        have h1 := List.pairwise_cons.1 ha
        have h2 := List.pairwise_cons.1 hb
        rw [mrg]
        split <;> rename_i hw
        · obtain ⟨a1, a2, b1, b2, e1, e2, e3, e4, e5, e6⟩ := ih (a := p :: as) (b := bs) ha h2.2 (by simp only [List.length_cons] at hx ⊢; omega)
          refine ⟨a1, a2, q :: b1, b2, e1, by rw [e2]; rfl, by simp only [List.length_cons]; omega, ?_, fun r hr s hs => ?_, e6⟩
          · rw [List.take_succ_cons]
            exact (List.Perm.cons q e4).trans List.perm_middle.symm
          · rcases List.mem_cons.1 hr with rfl | hr
            · have hm : s ∈ p :: as := by rw [e1]; exact List.mem_append_right _ hs
              rcases List.mem_cons.1 hm with rfl | hm
              · exact hw
              · have := h1.1 s hm; omega
            · exact e5 r hr s hs
        · obtain ⟨a1, a2, b1, b2, e1, e2, e3, e4, e5, e6⟩ := ih (a := as) (b := q :: bs) h1.2 hb (by simp only [List.length_cons] at hx ⊢; omega)
          refine ⟨p :: a1, a2, b1, b2, by rw [e1]; rfl, e2, by simp only [List.length_cons]; omega, ?_, e5, fun r hr s hs => ?_⟩
          · rw [List.take_succ_cons]
            exact List.Perm.cons p e4
          · rcases List.mem_cons.1 hr with rfl | hr
            · have hm : s ∈ q :: bs := by rw [e2]; exact List.mem_append_right _ hs
              rcases List.mem_cons.1 hm with rfl | hm
              · omega
              · have := h2.1 s hm; omega
            · exact e6 r hr s hs
theorem wtP_nil : wtP [] = 0 := rfl
theorem wtP_cons (p : Pk) (l : List Pk) : wtP (p :: l) = p.w + wtP l := by simp [wtP]
theorem wtP_append (a b : List Pk) : wtP (a ++ b) = wtP a + wtP b := by simp [wtP]
theorem wtP_perm (h : a.Perm b) : wtP a = wtP b := by
  induction h with
  | nil => rfl
  | cons x _ ih => rw [wtP_cons, wtP_cons, ih]
  | swap x y l => rw [wtP_cons, wtP_cons, wtP_cons, wtP_cons]; omega
  | trans _ _ h1 h2 => exact h1.trans h2
theorem flP_append (a b : List Pk) : flP (a ++ b) = flP a ++ flP b := by simp [flP]
theorem flP_cons (p : Pk) (l : List Pk) : flP (p :: l) = p.l ++ flP l := by simp [flP]
theorem flP_perm (h : a.Perm b) : (flP a).Perm (flP b) := List.Perm.flatMap_right _ h
theorem wtP_nonneg (h : ∀ p ∈ l, 0 ≤ p.w) : 0 ≤ wtP l := by
  induction l with
  | nil => exact Int.le_refl _
  | cons p l ih =>
    rw [wtP_cons]
    have := h p List.mem_cons_self
    have := ih fun q hq => h q (List.mem_cons_of_mem _ hq)
    omega
/-- two lists of one length, one below the other -/
theorem wtP_le (hl : a.length = b.length) (h : ∀ p ∈ a, ∀ q ∈ b, p.w ≤ q.w) : wtP a ≤ wtP b := by
  induction a generalizing b with
  | nil =>
    cases b with
    | nil => exact Int.le_refl _
    | cons q b => simp at hl
  | cons p a ih =>
    cases b with
    | nil => simp at hl
    | cons q b =>
      rw [wtP_cons, wtP_cons]
      have h1 := h p List.mem_cons_self q List.mem_cons_self
      have h2 := ih (b := b) (by simpa using hl) fun r hr s hs => h r (List.mem_cons_of_mem _ hr) s (List.mem_cons_of_mem _ hs)
      omega
/-- a beginning of the merged list weighs no more than any two beginnings that are as long -/
theorem mrg_least {i j : Nat} (ha : Srt a) (hb : Srt b) (hi : i ≤ a.length) (hj : j ≤ b.length) : wtP ((mrg a b).take (i + j)) ≤ wtP (a.take i) + wtP (b.take j) := by
  obtain ⟨a1, a2, b1, b2, e1, e2, e3, e4, e5, e6⟩ := mrg_split ha hb (x := i + j) (by omega)
  rw [wtP_perm e4, wtP_append]
  rcases Nat.le_total a1.length i with h | h
  · -- the beginning has more of b
    have f1 : a.take i = a1 ++ a2.take (i - a1.length) := by rw [e1, List.take_append, List.take_of_length_le h]
    have f2 : b1 = b.take j ++ b1.drop j := by
      have : b.take j = b1.take j := by rw [e2, List.take_append_of_le_length (by omega)]
      rw [this, List.take_append_drop]
    have hla : a2.length = a.length - a1.length := by rw [e1, List.length_append]; omega
    have hle : wtP (b1.drop j) ≤ wtP (a2.take (i - a1.length)) := wtP_le (by rw [List.length_drop, List.length_take]; omega) fun p hp q hq => Int.le_of_lt (e5 p (List.mem_of_mem_drop hp) q (List.mem_of_mem_take hq))
    rw [f1, wtP_append]
    have : wtP b1 = wtP (b.take j) + wtP (b1.drop j) := by rw [← wtP_append, ← f2]
    omega
  · have f1 : b.take j = b1 ++ b2.take (j - b1.length) := by rw [e2, List.take_append, List.take_of_length_le (by omega)]
    have f2 : a1 = a.take i ++ a1.drop i := by
      have : a.take i = a1.take i := by rw [e1, List.take_append_of_le_length h]
      rw [this, List.take_append_drop]
    have hlb : b2.length = b.length - b1.length := by rw [e2, List.length_append]; omega
    have hle : wtP (a1.drop i) ≤ wtP (b2.take (j - b1.length)) := wtP_le (by rw [List.length_drop, List.length_take]; omega) fun p hp q hq => e6 p (List.mem_of_mem_drop hp) q (List.mem_of_mem_take hq)
    rw [f1, wtP_append]
    have : wtP a1 = wtP (a.take i) + wtP (a1.drop i) := by rw [← wtP_append, ← f2]
    omega
/-! pairs -/
theorem pairs_length (l : List Pk) : (pairsP l).length = l.length / 2 := by
  induction l using pairsP.induct with
  | case1 a b r ih => rw [pairsP, List.length_cons, ih]; simp only [List.length_cons]; omega
  | case2 t h =>
    match t, h with
    | [], _ => rfl
    | [a], _ => simp [pairsP]
    | a :: b :: r, h => exact absurd rfl (h a b r)
theorem pairs_take (l : List Pk) (j : Nat) : (pairsP l).take j = pairsP (l.take (2 * j)) := by
  induction l using pairsP.induct generalizing j with
  | case1 a b r ih =>
    cases j with
    | zero => simp [pairsP]
    | succ j => rw [pairsP, List.take_succ_cons, ih j, show 2 * (j + 1) = 2 * j + 1 + 1 by omega, List.take_succ_cons, List.take_succ_cons, pairsP]
  | case2 t h =>
    match t, h with
    | [], _ => simp [pairsP]
    | [a], _ =>
      cases j with
      | zero => simp [pairsP]
      | succ j => rw [show 2 * (j + 1) = 2 * j + 1 + 1 by omega]; simp [pairsP]
    | a :: b :: r, h => exact absurd rfl (h a b r)
theorem pairs_even (l : List Pk) (h : l.length % 2 = 0) : flP (pairsP l) = flP l ∧ wtP (pairsP l) = wtP l ∧ ((∀ e ∈ l, 0 ≤ e.w) → ∀ e ∈ l, ∃ p ∈ pairsP l, e.w ≤ p.w) := by
  induction l using pairsP.induct with
  | case1 a b r ih =>
    obtain ⟨h1, h2, h3⟩ := ih (by simp only [List.length_cons] at h; omega)
    rw [pairsP]
    refine ⟨by rw [flP_cons, flP_cons, flP_cons, h1]; simp, by rw [wtP_cons, wtP_cons, wtP_cons, h2]; show a.w + b.w + _ = _; omega, fun hn e he => ?_⟩
    have ha := hn a List.mem_cons_self
    have hb := hn b (List.mem_cons_of_mem _ List.mem_cons_self)
    rcases List.mem_cons.1 he with rfl | he
    · exact ⟨_, List.mem_cons_self, by show e.w ≤ e.w + b.w; omega⟩
    · rcases List.mem_cons.1 he with rfl | he
      · exact ⟨_, List.mem_cons_self, by show e.w ≤ a.w + e.w; omega⟩
      · obtain ⟨p, hp, hw⟩ := h3 (fun q hq => hn q (List.mem_cons_of_mem _ (List.mem_cons_of_mem _ hq))) e he
        exact ⟨p, List.mem_cons_of_mem _ hp, hw⟩
  | case2 t h' =>
    match t, h' with
    | [], _ => exact ⟨rfl, rfl, fun _ e he => by simp at he⟩
    | [a], _ => simp at h
    | a :: b :: r, h' => exact absurd rfl (h' a b r)
theorem pairs_mem (l : List Pk) : ∀ p ∈ pairsP l, ∃ c ∈ l, ∃ d ∈ l, p.w = c.w + d.w ∧ p.l = c.l ++ d.l := by
  induction l using pairsP.induct with
  | case1 a b r ih =>
    intro p hp
    rw [pairsP] at hp
    rcases List.mem_cons.1 hp with rfl | hp
    · exact ⟨a, List.mem_cons_self, b, List.mem_cons_of_mem _ List.mem_cons_self, rfl, rfl⟩
    · obtain ⟨c, hc, d, hd, h1, h2⟩ := ih p hp
      exact ⟨c, List.mem_cons_of_mem _ (List.mem_cons_of_mem _ hc), d, List.mem_cons_of_mem _ (List.mem_cons_of_mem _ hd), h1, h2⟩
  | case2 t h =>
    match t, h with
    | [], _ => intro p hp; simp [pairsP] at hp
    | [a], _ => intro p hp; simp [pairsP] at hp
    | a :: b :: r, h => exact absurd rfl (h a b r)
theorem pairs_sorted (l : List Pk) (h : Srt l) : Srt (pairsP l) := by
  induction l using pairsP.induct with
  | case1 a b r ih =>
    rw [pairsP]
    have h1 := List.pairwise_cons.1 h
    have h2 := List.pairwise_cons.1 h1.2
    refine List.pairwise_cons.2 ⟨fun p hp => ?_, ih h2.2⟩
    obtain ⟨c, hc, d, hd, e, _⟩ := pairs_mem r p hp
    have := h1.1 c (List.mem_cons_of_mem _ hc)
    have := h2.1 d hd
    show a.w + b.w ≤ p.w
    omega
  | case2 t h' =>
    match t, h' with
    | [], _ => exact List.Pairwise.nil
    | [a], _ => exact List.Pairwise.nil
    | a :: b :: r, h' => exact absurd rfl (h' a b r)
/-! levels -/
theorem lev_sorted (hF : Srt F) (k : Nat) : Srt (lev F k) := by
  induction k with
  | zero => exact hF
  | succ k ih => exact mrg_sorted hF (pairs_sorted _ ih)
theorem lev_length (F : List Pk) (k : Nat) : (lev F (k + 1)).length = F.length + (lev F k).length / 2 := by rw [lev, mrg_length, pairs_length]
theorem lev_nonneg (hF : ∀ p ∈ F, 0 ≤ p.w) (k : Nat) : ∀ p ∈ lev F k, 0 ≤ p.w := by
  induction k with
  | zero => exact hF
  | succ k ih =>
    intro p hp
    rcases List.mem_append.1 ((mrg_perm _ _).mem_iff.1 hp) with h | h
    · exact hF p h
    · obtain ⟨c, hc, d, hd, e, _⟩ := pairs_mem _ p h
      have := ih c hc
      have := ih d hd
      omega
/-- so long a list is there, if there are not too many leaves -/
theorem lev_long (h : F.length ≤ n * 2 ^ k) : 2 * F.length ≤ (lev F k).length + n := by
  induction k generalizing n with
  | zero => rw [Nat.pow_zero, Nat.mul_one] at h; show 2 * F.length ≤ F.length + n; omega
  | succ k ih =>
    have := ih (n := 2 * n) (by rw [Nat.pow_succ] at h; rw [Nat.mul_comm 2 n, Nat.mul_assoc, Nat.mul_comm 2]; exact h)
    rw [lev_length]
    omega
/-- numbers as digits of two -/
def valB : List Nat → Nat
  | [] => 0
  | b :: r => b * 2 ^ r.length + valB r
/-- a beginning of a level: so many leaves of each level -/
theorem lev_chain (hF : Srt F) (h0 : ∀ p ∈ F, 0 ≤ p.w) (k : Nat) : ∀ x, x ≤ (lev F k).length → ∃ A B, (A :: B).length = k + 1 ∧ (∀ b ∈ A :: B, b ≤ F.length) ∧ (A :: B).Pairwise (fun c d => d ≤ c) ∧
    (flP ((lev F k).take x)).Perm ((A :: B).flatMap fun b => flP (F.take b)) ∧ valB (A :: B) = x * 2 ^ k ∧ ∀ e ∈ F.take A, e ∈ (lev F k).take x := by
  induction k with
  | zero =>
    intro x hx
    refine ⟨x, [], rfl, fun b hb => ?_, by simp, ?_, by simp [valB], fun e he => he⟩
    · rcases List.mem_cons.1 hb with rfl | hb
      · exact hx
      · simp at hb
    · show (flP (F.take x)).Perm _
      simp
  | succ k ih =>
    intro x hx
    have hs := pairs_sorted _ (lev_sorted hF k)
    obtain ⟨a1, a2, b1, b2, e1, e2, e3, e4, e5, e6⟩ := mrg_split hF hs (x := x) (by rw [← mrg_length]; exact hx)
    have hb1 : b1.length ≤ (lev F k).length / 2 := by
      rw [← pairs_length, e2, List.length_append]; omega
    have hb1t : b1 = (pairsP (lev F k)).take b1.length := by rw [e2, List.take_left]
    have ha1t : a1 = F.take a1.length := by rw [e1, List.take_left]
    obtain ⟨A, B, g1, g2, g3, g4, g5, g6⟩ := ih (2 * b1.length) (by omega)
    have hev : ((lev F k).take (2 * b1.length)).length % 2 = 0 := by rw [List.length_take]; omega
    obtain ⟨p1, p2, p3⟩ := pairs_even _ hev
    rw [← pairs_take, ← hb1t] at p1 p2 p3
    have hAle : A ≤ a1.length := by
      rcases Nat.lt_or_ge a1.length A with hlt | h
      · exfalso
        have hAn := g2 A List.mem_cons_self
        cases a2 with
        | nil => rw [e1, List.append_nil] at hAn; omega
        | cons q a2 =>
          have hq : q ∈ F.take A := by
            rw [e1, List.take_append]
            refine List.mem_append_right _ ?_
            obtain ⟨z, hz⟩ : ∃ z, A - a1.length = z + 1 := ⟨A - a1.length - 1, by omega⟩
            rw [hz, List.take_succ_cons]
            exact List.mem_cons_self
          obtain ⟨p, hp, hw⟩ := p3 (fun e he => lev_nonneg h0 k e (List.mem_of_mem_take he)) q (g6 q hq)
          have := e5 p hp q List.mem_cons_self
          omega
      · exact h
    refine ⟨a1.length, A :: B, by rw [List.length_cons, g1], fun b hb => ?_, List.pairwise_cons.2 ⟨fun b hb => ?_, g3⟩, ?_, ?_, fun e he => ?_⟩
    · rcases List.mem_cons.1 hb with rfl | hb
      · rw [e1, List.length_append]; omega
      · exact g2 b hb
    · rcases List.mem_cons.1 hb with rfl | hb
      · exact hAle
      · exact Nat.le_trans ((List.pairwise_cons.1 g3).1 b hb) hAle
    · refine (flP_perm e4).trans ?_
      rw [flP_append, List.flatMap_cons, ← ha1t, p1]
      exact List.Perm.append_left _ g4
    · rw [valB, g1, g5, ← e3, Nat.pow_succ, Nat.add_mul]
      congr 1
      rw [Nat.mul_comm 2 b1.length, Nat.mul_assoc, Nat.mul_comm 2]
    · rw [← ha1t] at he
      exact e4.mem_iff.2 (List.mem_append_left _ he)
/-- no choice of leaves weighs less -/
theorem lev_least (hF : Srt F) (h0 : ∀ p ∈ F, 0 ≤ p.w) (k : Nat) : ∀ B : List Nat, B.length = k + 1 → (∀ b ∈ B, b ≤ F.length) → valB B / 2 ^ k ≤ (lev F k).length ∧ wtP ((lev F k).take (valB B / 2 ^ k)) ≤ (B.map fun b => wtP (F.take b)).sum := by
  induction k with
  | zero =>
    intro B hB hb
    match B, hB with
    | [b], _ =>
      have e : valB [b] / 2 ^ 0 = b := by simp [valB]
      rw [e]
      refine ⟨hb b List.mem_cons_self, ?_⟩
      show wtP (F.take b) ≤ _
      simp
  | succ k ih =>
    intro B hB hb
    match B, hB with
    | b :: B, hB =>
      have hB : B.length = k + 1 := by simpa using hB
      obtain ⟨h1, h2⟩ := ih B hB fun c hc => hb c (List.mem_cons_of_mem _ hc)
      obtain ⟨X, hX⟩ : ∃ X, valB B / 2 ^ k = X := ⟨_, rfl⟩
      have e : valB (b :: B) / 2 ^ (k + 1) = b + X / 2 := by
        rw [valB, hB, ← hX, Nat.div_div_eq_div_mul, ← Nat.pow_succ, Nat.add_comm, Nat.add_mul_div_right _ _ (Nat.two_pow_pos _), Nat.add_comm]
      rw [hX] at h1 h2
      have hbn := hb b List.mem_cons_self
      rw [e]
      have hpl : X / 2 ≤ (pairsP (lev F k)).length := by rw [pairs_length]; omega
      refine ⟨by rw [lev_length]; omega, ?_⟩
      have h3 := mrg_least hF (pairs_sorted _ (lev_sorted hF k)) hbn hpl
      have hev : ((lev F k).take (2 * (X / 2))).length % 2 = 0 := by rw [List.length_take]; omega
      have h4 := (pairs_even _ hev).2.1
      rw [← pairs_take] at h4
      have h5 : wtP ((lev F k).take (2 * (X / 2))) ≤ wtP ((lev F k).take X) := by
        have f : (lev F k).take X = (lev F k).take (2 * (X / 2)) ++ ((lev F k).take X).drop (2 * (X / 2)) := by
          have : (lev F k).take (2 * (X / 2)) = ((lev F k).take X).take (2 * (X / 2)) := by rw [List.take_take, Nat.min_eq_left (by omega)]
          rw [this, List.take_append_drop]
        have g : 0 ≤ wtP (((lev F k).take X).drop (2 * (X / 2))) := wtP_nonneg fun p hp => lev_nonneg h0 k p (List.mem_of_mem_take (List.mem_of_mem_drop hp))
        rw [f, wtP_append]
        omega
      rw [List.map_cons, List.sum_cons]
      show wtP ((mrg F (pairsP (lev F k))).take (b + X / 2)) ≤ _
      omega
end
end Go.Proofs.Ytckhkkjdibcclaa
