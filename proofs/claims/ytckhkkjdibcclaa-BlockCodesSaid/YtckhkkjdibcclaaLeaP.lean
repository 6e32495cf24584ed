/-
  Plain law: the table of least costs, its places, its paths.
-/
import Derived.Test.YtckhkkjdibcclaaPk20
namespace Go.Proofs.Ytckhkkjdibcclaa
open Go.RowKit
set_option linter.unusedVariables false
def dotI : List Int → List Nat → Int
  | a :: l, b :: x => a * (b : Int) + dotI l x
  | _, _ => 0
theorem dot_nil (x : List Nat) : dotI [] x = 0 := by cases x <;> rfl
theorem dot_nil' (l : List Int) : dotI l [] = 0 := by cases l <;> rfl
theorem dot_app : ∀ (x : List Nat) (l : List Int) (y : List Nat), dotI l (x ++ y) = dotI l x + dotI (l.drop x.length) y
  | [], l, y => by simp [dot_nil']
  | b :: x, [], y => by simp [dot_nil]
  | b :: x, a :: l, y => by
    show a * b + dotI l (x ++ y) = a * b + dotI l x + dotI (l.drop x.length) y
    rw [dot_app x l y]; omega
theorem dot_app2 : ∀ (l : List Int) (x : List Nat) (l' : List Int) (y : List Nat), l.length = x.length → dotI (l ++ l') (x ++ y) = dotI l x + dotI l' y
  | [], [], l', y, _ => by show dotI l' y = 0 + _; omega
  | a :: l, b :: x, l', y, h => by
    show a * b + dotI (l ++ l') (x ++ y) = a * b + dotI l x + _
    rw [dot_app2 l x l' y (by simpa using h)]; omega
theorem dot_rev : ∀ (l : List Int) (x : List Nat), l.length = x.length → dotI l.reverse x.reverse = dotI l x
  | [], [], _ => rfl
  | a :: l, b :: x, h => by
    have h : l.length = x.length := by simpa using h
    rw [List.reverse_cons, List.reverse_cons, dot_app2 _ _ _ _ (by simpa using h), dot_rev l x h]
    show _ + (a * b + 0) = a * b + _
    omega
theorem dot_map (S : List Int) (f : Int → Int) (g : Int → Nat) : dotI (S.map f) (S.map g) = (S.map fun s => f s * (g s : Int)).sum := by
  induction S with
  | nil => rfl
  | cons a S ih => rw [List.map_cons, List.map_cons, List.map_cons, List.sum_cons, ← ih]; rfl
theorem dot_le (l : List Int) (x : List Nat) (B : Nat) (c : Int) (hc : 0 ≤ c) (hl : ∀ a ∈ l, 0 ≤ a ∧ a ≤ c) (hx : ∀ b ∈ x, b ≤ B) : 0 ≤ dotI l x ∧ dotI l x ≤ (l.length : Int) * (c * (B : Int)) := by
  induction l generalizing x with
  | nil => rw [dot_nil]; simp
  | cons a l ih =>
    cases x with
    | nil => rw [dot_nil']; exact ⟨Int.le_refl _, Int.mul_nonneg (by omega) (Int.mul_nonneg hc (by omega))⟩
    | cons b x =>
      have h1 := ih x (fun a ha => hl a (List.mem_cons_of_mem _ ha)) (fun b hb => hx b (List.mem_cons_of_mem _ hb))
      have h2 := hl a List.mem_cons_self
      have h3 := hx b List.mem_cons_self
      have h4 : 0 ≤ a * (b : Int) := Int.mul_nonneg h2.1 (by omega)
      have h5 : a * (b : Int) ≤ c * (B : Int) := Int.mul_le_mul h2.2 (by omega) (by omega) hc
      show 0 ≤ a * b + dotI l x ∧ a * b + dotI l x ≤ ((l.length + 1 : Nat) : Int) * _
      rw [Int.natCast_add, Int.add_mul]
      omega
/-- what the cost has become behind t more symbols of e bits -/
def costT (l : List Int) (e i : Nat) (v : Int) : Nat → Int
  | 0 => v
  | t + 1 => costT l e i v t + (e : Int) * ix l (i + t)
theorem costT_dot (l : List Int) (e i : Nat) (v : Int) : ∀ t, costT l e i v t = v + dotI (l.drop i) (List.replicate t e)
  | 0 => by rw [List.replicate_zero, dot_nil']; show v = _; omega
  | t + 1 => by
    rw [costT, costT_dot l e i v t, List.replicate_succ', dot_app, List.length_replicate, List.drop_drop]
    have : dotI (l.drop (i + t)) [e] = (e : Int) * ix l (i + t) := by
      by_cases h : i + t < l.length
      · rw [List.drop_eq_getElem_cons h]
        show _ * _ + dotI _ [] = _
        rw [dot_nil', Int.mul_comm]
        simp [ix, h]
      · rw [List.drop_eq_nil_of_le (by omega), dot_nil]
        have : ix l (i + t) = 0 := by unfold ix; rw [List.getD_eq_getElem?_getD, List.getElem?_eq_none (by omega)]; rfl
        rw [this]; simp
    rw [this]; omega
theorem costT_mono (l : List Int) (e i : Nat) {v v' : Int} (h : v ≤ v') (t : Nat) : costT l e i v t ≤ costT l e i v' t := by
  rw [costT_dot, costT_dot]; omega
/-- so many symbols have a length of at most d, so many places are open there -/
def GoodD (l : List Int) (d i k : Nat) (v : Int) : Prop :=
  ∃ x : List Nat, x.length = i ∧ (∀ y ∈ x, 1 ≤ y ∧ y ≤ d) ∧ (x.map fun y => 2 ^ (d - y)).sum + k = 2 ^ d ∧ v = dotI l x
theorem GoodD.start (l : List Int) : GoodD l 0 0 1 0 := ⟨[], rfl, fun y hy => by simp at hy, rfl, (dot_nil' l).symm⟩
theorem kr_up (x : List Nat) (d : Nat) (h : ∀ y ∈ x, 1 ≤ y ∧ y ≤ d) : (x.map fun y => 2 ^ (d + 1 - y)).sum = 2 * (x.map fun y => 2 ^ (d - y)).sum := by
  induction x with
  | nil => rfl
  | cons a x ih =>
    have h1 := h a List.mem_cons_self
    rw [List.map_cons, List.map_cons, List.sum_cons, List.sum_cons, ih fun y hy => h y (List.mem_cons_of_mem _ hy), show d + 1 - a = d - a + 1 by omega, Nat.pow_succ]
    omega
theorem GoodD.step {l : List Int} {d i k t : Nat} {v : Int} (h : GoodD l d i k v) (ht : t ≤ 2 * k) : GoodD l (d + 1) (i + t) (2 * k - t) (costT l (d + 1) i v t) := by
  obtain ⟨x, h1, h2, h3, h4⟩ := h
  refine ⟨x ++ List.replicate t (d + 1), by simp [h1], fun y hy => ?_, ?_, ?_⟩
  · rcases List.mem_append.1 hy with hy | hy
    · have := h2 y hy; omega
    · have := List.eq_of_mem_replicate hy; omega
  · rw [List.map_append, List.sum_append, kr_up x d h2, List.map_replicate, show d + 1 - (d + 1) = 0 by omega, List.sum_replicate_nat, Nat.pow_succ]
    omega
  · rw [dot_app, costT_dot, h4, h1]
theorem GoodD.stay {l : List Int} {d i : Nat} {v : Int} (h : GoodD l d i 0 v) : GoodD l (d + 1) i 0 v := h.step (t := 0) (Nat.zero_le _)
theorem GoodD.bd {l : List Int} {d i k : Nat} {v : Int} (h : GoodD l d i k v) (hl : ∀ a ∈ l, 0 ≤ a ∧ a ≤ 1048576) (hn : l.length ≤ 288) (hd : d ≤ 15) : 0 ≤ v ∧ v ≤ 5000000000 := by
  obtain ⟨x, h1, h2, h3, h4⟩ := h
  have := dot_le l x 15 1048576 (by omega) hl fun b hb => by have := h2 b hb; omega
  rw [h4]
  refine ⟨this.1, Int.le_trans this.2 ?_⟩
  have : (l.length : Int) * (1048576 * 15) ≤ 288 * (1048576 * 15) := Int.mul_le_mul_of_nonneg_right (by omega) (by omega)
  omega
/-- the paths through the table -/
inductive Rch (l : List Int) (n : Nat) : Nat → Nat → Nat → Int → Prop
  | start : Rch l n 0 0 1 0
  | step {d i k t : Nat} {v : Int} : Rch l n d i k v → i < n → 1 ≤ k → k ≤ n → t ≤ 2 * k → i + t ≤ n → 2 * k - t ≤ n → Rch l n (d + 1) (i + t) (2 * k - t) (costT l (d + 1) i v t)
  | stay {d : Nat} {v : Int} : Rch l n d n 0 v → Rch l n (d + 1) n 0 v
theorem Rch.good {l : List Int} {n d i k : Nat} {v : Int} (h : Rch l n d i k v) : GoodD l d i k v := by
  induction h with
  | start => exact GoodD.start l
  | step _ _ _ _ ht _ _ ih => exact ih.step ht
  | stay _ ih => exact ih.stay
theorem srt_split (e : Nat) : ∀ y : List Nat, y.Pairwise (· ≤ ·) → (∀ a ∈ y, e ≤ a) → ∃ t y2, y = List.replicate t e ++ y2 ∧ (∀ a ∈ y2, e < a) ∧ y2.Pairwise (· ≤ ·)
  | [], _, _ => ⟨0, [], rfl, fun a ha => by simp at ha, List.Pairwise.nil⟩
  | a :: y, hs, h => by
    rw [List.pairwise_cons] at hs
    by_cases he : a = e
    · obtain ⟨t, y2, h1, h2, h3⟩ := srt_split e y hs.2 fun b hb => h b (List.mem_cons_of_mem _ hb)
      exact ⟨t + 1, y2, by rw [he, h1, List.replicate_succ]; rfl, h2, h3⟩
    · have := h a List.mem_cons_self
      refine ⟨0, a :: y, rfl, fun b hb => ?_, List.pairwise_cons.2 hs⟩
      rcases List.mem_cons.1 hb with rfl | hb
      · omega
      · have := hs.1 b hb; omega
theorem kr_le (y : List Nat) (m e : Nat) (h : ∀ a ∈ y, e ≤ a) : (y.map fun a => 2 ^ (m - a)).sum ≤ y.length * 2 ^ (m - e) := by
  induction y with
  | nil => simp
  | cons a y ih =>
    have h1 : 2 ^ (m - a) ≤ 2 ^ (m - e) := Nat.pow_le_pow_right (by omega) (by have := h a List.mem_cons_self; omega)
    have := ih fun b hb => h b (List.mem_cons_of_mem _ hb)
    rw [List.map_cons, List.sum_cons, List.length_cons, Nat.add_mul]
    omega
theorem Rch.path {l : List Int} {n m : Nat} : ∀ r d : Nat, d + r = m → ∀ (y : List Nat) (i k : Nat) (v : Int), Rch l n d i k v → i + y.length = n → y.Pairwise (· ≤ ·) → (∀ a ∈ y, d + 1 ≤ a ∧ a ≤ m) →
    (y.map fun a => 2 ^ (m - a)).sum = k * 2 ^ (m - d) → Rch l n m n 0 (v + dotI (l.drop i) y)
  | 0, d, hd, y, i, k, v, h, hi, hs, hy, hk => by
    have : y = [] := by
      cases y with
      | nil => rfl
      | cons a y => have := hy a List.mem_cons_self; omega
    subst this
    obtain rfl : d = m := by omega
    rw [Nat.sub_self] at hk
    have hk0 : k = 0 := by simpa using hk.symm
    subst hk0
    obtain rfl : i = n := by simpa using hi
    rw [dot_nil', Int.add_zero]
    exact h
  | r + 1, d, hd, y, i, k, v, h, hi, hs, hy, hk => by
    by_cases hy0 : y = []
    · subst hy0
      have hk0 : k = 0 := by
        have := Nat.two_pow_pos (m - d)
        rcases Nat.mul_eq_zero.1 (show k * 2 ^ (m - d) = 0 by simpa using hk.symm) with h | h
        · exact h
        · omega
      subst hk0
      obtain rfl : i = n := by simpa using hi
      have := Rch.path (m := m) r (d + 1) (by omega) [] i 0 v h.stay (by simp) hs (fun a ha => by simp at ha) (by simp)
      exact this
    · obtain ⟨t, y2, rfl, h2, h3⟩ := srt_split (d + 1) y hs fun a ha => (hy a ha).1
      have hp : 2 ^ (m - d) = 2 * 2 ^ (m - (d + 1)) := by rw [show m - d = m - (d + 1) + 1 by omega, Nat.pow_succ]; omega
      have hpos := Nat.two_pow_pos (m - (d + 1))
      have hsum := hk
      rw [List.map_append, List.sum_append, List.map_replicate, List.sum_replicate_nat, hp] at hsum
      have hle := kr_le _ m (d + 1) fun a ha => (hy a ha).1
      rw [hk, hp, ← Nat.mul_assoc] at hle
      have hkl : k * 2 ≤ (List.replicate t (d + 1) ++ y2).length := Nat.le_of_mul_le_mul_right hle hpos
      have hle2 := kr_le y2 m (d + 1) fun a ha => by have := h2 a ha; omega
      have hsum2 : t * 2 ^ (m - (d + 1)) + (y2.map fun a => 2 ^ (m - a)).sum = (2 * k) * 2 ^ (m - (d + 1)) := by
        rw [hsum, Nat.mul_comm 2 k, Nat.mul_assoc]
      have ht : t ≤ 2 * k := by
        refine Nat.le_of_mul_le_mul_right (c := 2 ^ (m - (d + 1))) ?_ hpos
        omega
      have hy2 : (y2.map fun a => 2 ^ (m - a)).sum = (2 * k - t) * 2 ^ (m - (d + 1)) := by
        rw [Nat.sub_mul]; omega
      have hl2 : 2 * k - t ≤ y2.length := by
        rw [hy2] at hle2
        exact Nat.le_of_mul_le_mul_right hle2 hpos
      rw [List.length_append, List.length_replicate] at hkl hi
      have hk1 : 1 ≤ k := by
        rcases Nat.eq_zero_or_pos k with h0 | h0
        · exfalso
          subst h0
          obtain ⟨b, hb⟩ : ∃ b, b ∈ List.replicate t (d + 1) ++ y2 := List.exists_mem_of_ne_nil _ hy0
          have : 0 < ((List.replicate t (d + 1) ++ y2).map fun a => 2 ^ (m - a)).sum := by
            have h5 := sum_ge ((List.replicate t (d + 1) ++ y2).map fun a => 2 ^ (m - a)) (fun x hx => by
              obtain ⟨c, _, rfl⟩ := List.mem_map.1 hx
              exact Nat.two_pow_pos _)
            have h6 : 0 < (List.replicate t (d + 1) ++ y2).length := List.length_pos_of_mem hb
            rw [List.length_map] at h5
            omega
          rw [hk] at this
          simp at this
        · exact h0
      have hstep := Rch.step (t := t) h (by omega) hk1 (by omega) ht (by omega) (by omega)
      have := Rch.path r (d + 1) (by omega) y2 (i + t) (2 * k - t) _ hstep (by omega) h3 (fun a ha => ⟨by have := h2 a ha; omega, (hy a (List.mem_append_right _ ha)).2⟩) hy2
      rw [costT_dot] at this
      rw [dot_app, List.length_replicate, List.drop_drop, ← Int.add_assoc]
      exact this
theorem srt_perm_eq : ∀ (a b : List Int), a.Perm b → a.Pairwise (fun x y => y ≤ x) → b.Pairwise (fun x y => y ≤ x) → a = b
  | [], b, h, _, _ => by rw [List.nil_perm.1 h]
  | x :: a, [], h, _, _ => by simp at h
  | x :: a, y :: b, h, ha, hb => by
    rw [List.pairwise_cons] at ha hb
    have hxy : x = y := by
      have h1 : x ∈ y :: b := h.mem_iff.1 List.mem_cons_self
      have h2 : y ∈ x :: a := h.mem_iff.2 List.mem_cons_self
      rcases List.mem_cons.1 h1 with h1 | h1
      · exact h1
      · rcases List.mem_cons.1 h2 with h2 | h2
        · exact h2.symm
        · have := ha.1 y h2; have := hb.1 x h1; omega
    subst hxy
    rw [srt_perm_eq a b (List.perm_cons x |>.1 h) ha.2 hb.2]
theorem map_back : ∀ (S : List Int) (x : List Nat), S.Nodup → S.length = x.length → ∃ h : Int → Nat, S.map h = x
  | [], [], _, _ => ⟨fun _ => 0, rfl⟩
  | s :: S, b :: x, hn, hl => by
    rw [List.nodup_cons] at hn
    obtain ⟨h, e⟩ := map_back S x hn.2 (by simpa using hl)
    refine ⟨fun t => if t = s then b else h t, ?_⟩
    rw [List.map_cons, if_pos rfl]
    congr 1
    rw [← e]
    exact List.map_congr_left fun t ht => if_neg fun (e : t = s) => hn.1 (e ▸ ht)
theorem lenP_mono {f : Int → Int} {S : List Int} {m : Nat} (hn : S.Nodup) (hs : S.Pairwise fun s t => f s ≤ f t) (h0 : ∀ s ∈ S, 0 ≤ f s) (h2 : 2 ≤ S.length) (hm : 1 ≤ m) (hl : S.length ≤ 2 ^ m) : (S.map (lenP f S m)).Pairwise (fun x y => y ≤ x) := by
  have hF := leafs_sorted hs
  have hF0 : ∀ p ∈ leafs f S, 0 ≤ p.w := fun p hp => by
    obtain ⟨s, h1, h3, _⟩ := leafs_mem p hp
    rw [h3]; exact h0 s h1
  obtain ⟨K, rfl⟩ : ∃ K, m = K + 1 := ⟨m - 1, by omega⟩
  have hlong := lev_long (F := leafs f S) (n := 2) (k := K) (by rw [leafs_length, Nat.mul_comm, ← Nat.pow_succ]; exact hl)
  rw [leafs_length] at hlong
  obtain ⟨A, B, g1, g2, g3, g4, g5, -⟩ := lev_chain hF hF0 K (2 * S.length - 2) (by omega)
  rw [leafs_length] at g2
  have hT : (takenP f S (K + 1)).Perm ((A :: B).flatMap fun b => S.take b) := by
    have e : (fun b => flP ((leafs f S).take b)) = fun b => S.take b := by funext b; rw [leafs_take, fl_leafs]
    rw [e] at g4
    exact g4
  have hlen : ∀ r, r < S.length → lenP f S (K + 1) (ix S r) = cntB (A :: B) r := fun r hr => by
    unfold lenP
    rw [hT.count_eq, count_flat hn hr]
  rw [List.pairwise_iff_getElem]
  intro i j hi hj hij
  rw [List.length_map] at hi hj
  rw [List.getElem_map, List.getElem_map]
  have e1 : ix S i = S[i] := by simp [ix, hi]
  have e2 : ix S j = S[j] := by simp [ix, hj]
  rw [← e1, ← e2, hlen i hi, hlen j hj]
  exact cntB_mono _ (by omega)
/-- the table's last place holds what the limit's lengths cost -/
theorem least_same {f L l : List Int} {m : Nat} (hR : LenRes f m L) (hmv : mayV f (m : Int) = 0) (h2 : 2 ≤ (posI f f.length).length) (hl : l.Perm ((posI f f.length).map (fqI f))) (hs : l.Pairwise (fun x y => y ≤ x)) {V : Int}
    (hG : V = 1152921504606846976 ∨ GoodD l m l.length 0 V) (hLe : ∀ v, Rch l l.length m l.length 0 v → V ≤ v) : V = costTo L f f.length := by
  obtain ⟨m1, m2, m3, m4, m5⟩ := may_ok hmv
  rw [Int.toNat_natCast] at m5
  obtain ⟨-, -, hco, -, -⟩ := hR.three hmv h2
  obtain ⟨-, hR⟩ := hR
  rcases hR with ⟨h, _⟩ | ⟨s, h, _⟩ | ⟨S, hp, hsS, hS2, hL⟩
  · rw [h] at h2; simp at h2
  · rw [h] at h2; simp at h2
  replace hsS := hsS.le
  have hmem : ∀ s ∈ S, ∃ i : Nat, i < f.length ∧ s = (i : Int) ∧ 0 < ix f i := fun s hs => (pos_gt _ s).1 (hp.mem_iff.1 hs)
  have hnd := hp.nodup_iff.2 (pos_nodup f f.length)
  have h0 : ∀ s ∈ S, 0 ≤ fqI f s := fun s hs => by
    obtain ⟨i, hi, rfl, _⟩ := hmem s hs
    rw [fqI_nat]; exact (m4 i hi).1
  have hlaw := limit_law (f := fqI f) (S := S) (m := m) hnd hsS h0 hS2 (by omega) (by rw [hp.length_eq]; exact m5)
  have hmono := lenP_mono (f := fqI f) (S := S) (m := m) hnd hsS h0 hS2 (by omega) (by rw [hp.length_eq]; exact m5)
  have hv : ∀ s ∈ S, ix L s.toNat = ((lenP (fqI f) S m s : Nat) : Int) := fun s hs => by
    obtain ⟨i, hi, rfl, _⟩ := hmem s hs
    rw [Int.toNat_natCast, hL i hi]
  have hrev : l = (S.map (fqI f)).reverse := by
    refine srt_perm_eq _ _ (hl.trans ((hp.symm.map (fqI f)).trans (List.reverse_perm _).symm)) hs ?_
    rw [List.pairwise_reverse, List.pairwise_map]
    exact hsS
  have hlen : l.length = S.length := by rw [hrev]; simp
  have hcost : costTo L f f.length = dotI (S.map (fqI f)) (S.map (lenP (fqI f) S m)) := by
    rw [hco, dot_map]
    unfold cstP
    rw [← sumI_perm (hp.map _)]
    congr 1
    exact List.map_congr_left fun s hs => by show _ * ix L s.toNat = _; rw [hv s hs]
  have hdot : ∀ x : List Nat, x.length = S.length → dotI l x = dotI (S.map (fqI f)) x.reverse := fun x hx => by
    rw [hrev]
    have := dot_rev (S.map (fqI f)) x.reverse (by simp [hx])
    rw [List.reverse_reverse] at this
    exact this
  have hle : V ≤ costTo L f f.length := by
    have hpath := Rch.path (l := l) (n := l.length) (m := m) m 0 (by omega) (S.map (lenP (fqI f) S m)).reverse 0 1 0 .start (by simp [hlen]) (by rw [List.pairwise_reverse]; exact hmono) (fun a ha => by
      rw [List.mem_reverse] at ha
      obtain ⟨s, hs, rfl⟩ := List.mem_map.1 ha
      exact hlaw.bd s hs) (by
      rw [List.map_reverse, List.sum_reverse, List.map_map, Nat.one_mul, Nat.sub_zero]
      exact hlaw.whole)
    have := hLe _ hpath
    rw [List.drop_zero, hdot _ (by simp), List.reverse_reverse, Int.zero_add, ← hcost] at this
    exact this
  refine Int.le_antisymm hle ?_
  rcases hG with hG | hG
  · have hbd : costTo L f f.length ≤ 288 * (1048576 * 15) := by
      rw [hcost]
      have := dot_le (S.map (fqI f)) (S.map (lenP (fqI f) S m)) 15 1048576 (by omega) (fun a ha => by
        obtain ⟨s, hs, rfl⟩ := List.mem_map.1 ha
        obtain ⟨i, hi, rfl, _⟩ := hmem s hs
        rw [fqI_nat]; exact m4 i hi) (fun b hb => by
        obtain ⟨s, hs, rfl⟩ := List.mem_map.1 hb
        have := hlaw.bd s hs; omega)
      refine Int.le_trans this.2 (Int.mul_le_mul_of_nonneg_right ?_ (by omega))
      rw [List.length_map, hp.length_eq]
      have := pos_len f f.length
      omega
    omega
  · obtain ⟨x, h1, h3, h4, h5⟩ := hG
    rw [hlen] at h1
    obtain ⟨h, hh⟩ := map_back S x.reverse hnd (by simp [h1])
    have := hlaw.least h (fun s hs => by
      have hm : h s ∈ x.reverse := by rw [← hh]; exact List.mem_map_of_mem hs
      rw [List.mem_reverse] at hm
      exact (h3 _ hm).2) (by
      have e : (S.map fun s => 2 ^ (m - h s)) = (S.map h).map fun y => 2 ^ (m - y) := by rw [List.map_map]; rfl
      rw [e, hh, List.map_reverse, List.sum_reverse]
      omega)
    rw [← dot_map, ← dot_map, hh, ← hcost, ← hdot x h1, ← h5] at this
    exact this
end Go.Proofs.Ytckhkkjdibcclaa
