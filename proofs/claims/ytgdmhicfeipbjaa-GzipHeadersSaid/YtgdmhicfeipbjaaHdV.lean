/-
  Plain law: what PrintHeader prints is read as the header; cut off it is incomplete.
-/
import Derived.Test.YtgdmhicfeipbjaaHdT
namespace Go.Proofs.Ytgdmhicfeipbjaa
set_option linter.unusedVariables false

theorem ix_app_left {l r : List Int} {i : Nat} (h : i < l.length) : ix (l ++ r) i = ix l i := by rw [ix_append, if_pos h]
theorem nz_no {l r : List Int} (h : ¬ nz l < l.length) : nz (l ++ 0 :: r) = l.length := by
  induction l with
  | nil => rw [List.nil_append, nz_cons]; rfl
  | cons x l ih =>
    rw [nz_cons] at h
    by_cases hx : x = 0
    · rw [if_pos hx] at h; simp at h
    · rw [if_neg hx] at h
      rw [List.cons_append, nz_cons, if_neg hx, ih (by simp at h; omega)]
      rfl
theorem nz_take_no {l : List Int} (h : ¬ nz l < l.length) (k : Nat) : ¬ nz (l.take k) < (l.take k).length := by
  have := nz_le l
  rw [nz_take, List.length_take]; omega
theorem gdS_true {l : List Int} {b : Bool} (h : gdS l b = true) : l.length ≤ 4096 ∧ ¬ nz l < l.length ∧ (b = true ∨ l = []) := by
  unfold gdS at h
  simp only [Bool.and_eq_true, decide_eq_true_eq, Bool.or_eq_true, List.isEmpty_iff] at h
  exact ⟨h.1, h.2.1, h.2.2⟩
theorem ok_parts {h : HP} (hk : h.ok = true) : h.xl.length ≤ 65535 ∧ (h.hE = true ∨ h.xl = []) ∧ (h.nl.length ≤ 4096 ∧ ¬ nz h.nl < h.nl.length ∧ (h.hN = true ∨ h.nl = [])) ∧ (h.cl.length ≤ 4096 ∧ ¬ nz h.cl < h.cl.length ∧ (h.hC = true ∨ h.cl = [])) := by
  unfold HP.ok at hk
  simp only [Bool.or_eq_false_iff, Bool.and_eq_false_iff, decide_eq_false_iff_not, Bool.not_eq_eq_eq_not, Bool.not_true, Bool.not_false] at hk
  refine ⟨by omega, ?_, gdS_true hk.1.2, gdS_true hk.2⟩
  rcases hk.1.1.2 with h1 | h1
  · exact .inl h1
  · right; exact List.eq_nil_of_length_eq_zero (by omega)
theorem p0_len (h : HP) : h.p0.length = 10 := by
  unfold HP.p0
  rw [List.length_append, List.length_append, leB_length]; rfl
theorem bit_F (h : HP) : bit h.F 1 = h.tx ∧ bit h.F 2 = h.sm ∧ bit h.F 4 = h.hE ∧ bit h.F 8 = h.hN ∧ bit h.F 16 = h.hC := by
  unfold HP.F b2i
  cases h.tx <;> cases h.sm <;> cases h.hE <;> cases h.hN <;> cases h.hC <;> decide

section
variable {h : HP} {M r : List Int}
theorem pre_p0 (hM : M = h.p0 ++ r) : pre M 3 := by
  intro i hi
  subst hM
  refine ⟨by rw [List.length_append, p0_len]; omega, ?_⟩
  unfold HP.p0
  obtain rfl | rfl | rfl : i = 0 ∨ i = 1 ∨ i = 2 := by omega
  all_goals rfl
theorem flag_p0 (hM : M = h.p0 ++ r) : ix M 3 = h.F := by
  subst hM
  unfold HP.p0
  rfl
theorem len_p0 (hM : M = h.p0 ++ r) : 10 ≤ M.length := by subst hM; rw [List.length_append, p0_len]; omega
theorem s1 (hb : h.bd) (hM : M = h.p0 ++ r) : ten M ∧ fB M = h.F ∧ tmV M = h.tm ∧ flV M = h.fl ∧ syV M = h.sy := by
  have hF := F_bd h
  have ht := ten_ok (pre_p0 hM) (by rw [flag_p0 hM]; omega) (len_p0 hM)
  refine ⟨ht, by rw [ht.2.2.1, flag_p0 hM], ?_, ?_, ?_⟩
  · rw [ht.2.2.2.1, hM]
    have e : (List.drop 4 (h.p0 ++ r)).take 4 = leB 4 h.tm := by
      unfold HP.p0
      rw [List.append_assoc, List.append_assoc]
      show (leB 4 h.tm ++ _).take 4 = _
      exact List.take_left' (leB_length 4 h.tm)
    rw [e, leI_leB 4 hb.tm.1 (by have := hb.tm.2; omega)]
  · rw [ht.2.2.2.2.1, hM]
    unfold HP.p0
    rw [List.append_assoc, List.append_assoc, ix_append, if_neg (by simp), ix_append, if_neg (by simp [leB_length])]
    simp only [leB_length]
    rfl
  · rw [ht.2.2.2.2.2, hM]
    unfold HP.p0
    rw [List.append_assoc, List.append_assoc, ix_append, if_neg (by simp), ix_append, if_neg (by simp [leB_length])]
    simp only [leB_length]
    rfl
theorem p1_eq (he : h.hE = true) : h.p1 = h.p0 ++ (leB 2 h.xl.length ++ h.xl) := by unfold HP.p1; rw [if_pos he]
theorem p1_no (he : h.hE = false) : h.p1 = h.p0 := by unfold HP.p1; simp [he]
theorem xn_p0 {a : List Int} (hx : h.xl.length ≤ 65535) (hM : M = h.p0 ++ (leB 2 h.xl.length ++ a)) : leI ((M.drop 10).take 2) = (h.xl.length : Nat) := by
  rw [hM, List.drop_left' (p0_len h), List.take_left' (leB_length 2 _), leI_leB 2 (by omega) (by simp; omega)]
theorem s2 (hb : h.bd) (hk : h.ok = true) (hM : M = h.p1 ++ r) : q9 M = 0 ∧ b9 M = h.p1.length ∧ exL M = h.xl := by
  have ho := ok_parts hk
  cases he : h.hE with
  | false =>
    rw [p1_no he] at hM ⊢
    have hs := s1 hb hM
    have hx : h.xl = [] := by rcases ho.2.1 with h1 | h1; rw [he] at h1; cases h1; exact h1
    rw [p0_len, hx]
    exact ext_no hs.1 (by rw [hs.2.1, (bit_F h).2.2.1, he])
  | true =>
    rw [p1_eq he, List.append_assoc, List.append_assoc] at hM
    have hs := s1 hb hM
    have hn := xn_p0 ho.1 hM
    have hlen : M.length = 12 + h.xl.length + r.length := by rw [hM]; simp [p0_len, leB_length]; omega
    have := ext_ok hs.1 (by rw [hs.2.1, (bit_F h).2.2.1, he]) (by omega) hn (by omega)
    refine ⟨this.1, ?_, ?_⟩
    · rw [this.2.1, p1_eq he]; simp [p0_len, leB_length]; omega
    · rw [this.2.2, hM, ← List.append_assoc, List.drop_left' (by simp [p0_len, leB_length]), List.take_left' rfl]
theorem fB_1 (hb : h.bd) (hM : M = h.p1 ++ r) : fB M = h.F := by
  unfold HP.p1 at hM
  rw [List.append_assoc] at hM
  exact (s1 hb hM).2.1
theorem txR_at {l r : List Int} (h : l.length ≤ 4096) (h' : ¬ nz l < l.length) : txR (l ++ 0 :: r) = (l, l.length + 1, 0) := by
  unfold txR
  rw [nz_no h', if_pos ⟨by simp, h⟩, List.take_left' rfl]
theorem txR_cut {l : List Int} (h : l.length ≤ 4096) (h' : ¬ nz l < l.length) : txR l = ([], 0, 5) := by
  unfold txR
  rw [if_neg (fun h1 => h' h1.1), if_neg (by omega)]
theorem p2_eq (he : h.hN = true) : h.p2 = h.p1 ++ (h.nl ++ [0]) := by unfold HP.p2; rw [if_pos he]
theorem p2_no (he : h.hN = false) : h.p2 = h.p1 := by unfold HP.p2; simp [he]
theorem s3 (hb : h.bd) (hk : h.ok = true) (hM : M = h.p2 ++ r) : q10 M = 0 ∧ b10 M = h.p2.length ∧ nmL M = h.nl := by
  have ho := ok_parts hk
  cases he : h.hN with
  | false =>
    rw [p2_no he] at hM ⊢
    have hs := s2 hb hk hM
    have hx : h.nl = [] := by rcases ho.2.2.1.2.2 with h1 | h1; rw [he] at h1; cases h1; exact h1
    have := nam_no hs.1 (by rw [fB_1 hb hM, (bit_F h).2.2.2.1, he])
    rw [hx, ← hs.2.1]
    exact this
  | true =>
    rw [p2_eq he, List.append_assoc] at hM
    have hs := s2 hb hk hM
    have hd : M.drop (b9 M) = h.nl ++ 0 :: r := by rw [hs.2.1, hM, List.drop_left' rfl]; simp
    have ht := txR_at (r := r) ho.2.2.1.1 ho.2.2.1.2.1
    have := nam_ok hs.1 (by rw [fB_1 hb hM, (bit_F h).2.2.2.1, he]) (by rw [hd, ht])
    rw [hd, ht] at this
    refine ⟨this.1, ?_, this.2.2⟩
    rw [this.2.1, hs.2.1, p2_eq he]; simp
theorem p3_eq (he : h.hC = true) : h.p3 = h.p2 ++ (h.cl ++ [0]) := by unfold HP.p3; rw [if_pos he]
theorem p3_no (he : h.hC = false) : h.p3 = h.p2 := by unfold HP.p3; simp [he]
theorem fB_2 (hb : h.bd) (hM : M = h.p2 ++ r) : fB M = h.F := by
  unfold HP.p2 at hM
  rw [List.append_assoc] at hM
  exact fB_1 hb hM
theorem s4 (hb : h.bd) (hk : h.ok = true) (hM : M = h.p3 ++ r) : q11 M = 0 ∧ b11 M = h.p3.length ∧ cmL M = h.cl := by
  have ho := ok_parts hk
  cases he : h.hC with
  | false =>
    rw [p3_no he] at hM ⊢
    have hs := s3 hb hk hM
    have hx : h.cl = [] := by rcases ho.2.2.2.2.2 with h1 | h1; rw [he] at h1; cases h1; exact h1
    have := com_no hs.1 (by rw [fB_2 hb hM, (bit_F h).2.2.2.2, he])
    rw [hx, ← hs.2.1]
    exact this
  | true =>
    rw [p3_eq he, List.append_assoc] at hM
    have hs := s3 hb hk hM
    have hd : M.drop (b10 M) = h.cl ++ 0 :: r := by rw [hs.2.1, hM, List.drop_left' rfl]; simp
    have ht := txR_at (r := r) ho.2.2.2.1 ho.2.2.2.2.1
    have := com_ok hs.1 (by rw [fB_2 hb hM, (bit_F h).2.2.2.2, he]) (by rw [hd, ht])
    rw [hd, ht] at this
    refine ⟨this.1, ?_, this.2.2⟩
    rw [this.2.1, hs.2.1, p3_eq he]; simp
theorem fB_3 (hb : h.bd) (hM : M = h.p3 ++ r) : fB M = h.F := by
  unfold HP.p3 at hM
  rw [List.append_assoc] at hM
  exact fB_2 hb hM
theorem p4_eq (he : h.sm = true) : h.p4 = h.p3 ++ leB 2 (cmpI (crTo (cmpI 0) h.p3 h.p3.length)) := by unfold HP.p4; rw [if_pos he]
theorem p4_no (he : h.sm = false) : h.p4 = h.p3 := by unfold HP.p4; simp [he]
theorem leI_2 {v : Int} (h0 : 0 ≤ v) : leI (leB 2 v) = v % 65536 := by
  show v % 256 + 256 * (v / 256 % 256 + 256 * 0) = _
  omega
theorem s5 (hb : h.bd) (hk : h.ok = true) (hM : M = h.p4 ++ r) : q12 M = 0 ∧ b12 M = h.p4.length := by
  cases he : h.sm with
  | false =>
    rw [p4_no he] at hM ⊢
    have hs := s4 hb hk hM
    have := sum_no hs.1 (by rw [fB_3 hb hM, (bit_F h).2.1, he])
    rw [← hs.2.1]
    exact this
  | true =>
    rw [p4_eq he, List.append_assoc] at hM
    have hs := s4 hb hk hM
    have hcr := cmpI_bd (crTo_bd (x := cmpI 0) (l := h.p3) (cmpI_bd (by omega)) (ix_mem_bd (p3_bd h hb)) h.p3.length)
    have hlen : M.length = h.p3.length + 2 + r.length := by rw [hM]; simp [leB_length]; omega
    have := sum_ok hs.1 (by rw [fB_3 hb hM, (bit_F h).2.1, he]) (by omega) (by
      unfold crcV
      rw [hs.2.1]
      have e1 : M.take h.p3.length = h.p3 := by rw [hM, List.take_left' rfl]
      have e2 : (M.drop h.p3.length).take 2 = leB 2 (cmpI (crTo (cmpI 0) h.p3 h.p3.length)) := by rw [hM, List.drop_left' rfl, List.take_left' (leB_length 2 _)]
      rw [e1, e2, leI_2 hcr.1])
    refine ⟨this.1, ?_⟩
    rw [this.2, hs.2.1, p4_eq he]; simp [leB_length]
/-- what is read of what was printed -/
theorem read_back (hb : h.bd) (hk : h.ok = true) (hM : M = h.p4 ++ r) (ex : Value) : q12 M = 0 ∧ b12 M = h.p4.length ∧ exL M = h.xl ∧ outH M ex = h.v ex := by
  have h5 := s5 hb hk hM
  have hM3 : M = h.p3 ++ ((if h.sm then leB 2 (cmpI (crTo (cmpI 0) h.p3 h.p3.length)) else []) ++ r) := by rw [hM]; unfold HP.p4; rw [List.append_assoc]
  have h4 := s4 hb hk hM3
  have hM2 := hM3
  unfold HP.p3 at hM2
  rw [List.append_assoc] at hM2
  have h3 := s3 hb hk hM2
  have hM1 := hM2
  unfold HP.p2 at hM1
  rw [List.append_assoc] at hM1
  have h2 := s2 hb hk hM1
  have hM0 := hM1
  unfold HP.p1 at hM0
  rw [List.append_assoc] at hM0
  have h1 := s1 hb hM0
  have hF := bit_F h
  refine ⟨h5.1, h5.2, h2.2.2, ?_⟩
  unfold outH h1V HP.v
  dsimp only
  rw [h1.2.1, h1.2.2.1, h1.2.2.2.1, h1.2.2.2.2, h3.2.2, h4.2.2, hF.1, hF.2.1, hF.2.2.1, hF.2.2.2.1, hF.2.2.2.2]
end
theorem take_app {a b : List Int} {k : Nat} (h : a.length ≤ k) : (a ++ b).take k = a ++ b.take (k - a.length) := by
  rw [List.take_append, List.take_of_length_le h]
theorem p4_p0 (h : HP) : ∃ t, h.p4 = h.p0 ++ t := by
  unfold HP.p4 HP.p3 HP.p2 HP.p1
  exact ⟨_, by rw [List.append_assoc, List.append_assoc, List.append_assoc]⟩
/-- cut off it is incomplete -/
theorem cut_end {h : HP} (hb : h.bd) (hk : h.ok = true) {k : Nat} (hlt : k < h.p4.length) : q12 (h.p4.take k) = 5 := by
  have ho := ok_parts hk
  have hlen : (h.p4.take k).length = k := by rw [List.length_take]; omega
  have hF := F_bd h
  have hbF := bit_F h
  obtain ⟨t, ht⟩ := p4_p0 h
  have hpre : pre h.p4 3 := pre_p0 ht
  have hixk : ∀ i, i < k → ix (h.p4.take k) i = ix h.p4 i := fun i hi => by
    unfold ix
    rw [List.getD_eq_getElem?_getD, List.getD_eq_getElem?_getD, List.getElem?_take, if_pos hi]
  have hpk : ∀ j, j ≤ 3 → j ≤ k → pre (h.p4.take k) j := fun j hj hjk i hi => ⟨by rw [hlen]; omega, by rw [hixk i (by omega)]; exact (hpre i (by omega)).2⟩
  by_cases h3 : k < 3
  · exact pre_end h3 (hpk k (by omega) (Nat.le_refl _)) (by rw [hlen]; exact Nat.le_refl _)
  have hp3 := hpk 3 (Nat.le_refl _) (by omega)
  by_cases h4 : k < 4
  · exact len4 hp3 (by rw [hlen]; exact h4)
  by_cases h10 : k < 10
  · exact len10 hp3 (by rw [hlen]; omega) (by rw [hixk 3 (by omega), flag_p0 ht]; omega) (by rw [hlen]; exact h10)
  by_cases h1 : k < h.p1.length
  · cases he : h.hE with
    | false => rw [p1_no he, p0_len] at h1; omega
    | true =>
      have e1 := p1_eq he
      have hl1 : h.p1.length = 12 + h.xl.length := by rw [e1]; simp [p0_len, leB_length]; omega
      have hM : h.p4.take k = h.p0 ++ ((leB 2 h.xl.length ++ h.xl).take (k - 10)) := by
        have e : ∃ u, h.p4 = h.p1 ++ u := by
          unfold HP.p4 HP.p3 HP.p2
          exact ⟨_, by rw [List.append_assoc, List.append_assoc]⟩
        obtain ⟨u, hu⟩ := e
        rw [hu, List.take_append_of_le_length (by omega), e1, take_app (by rw [p0_len]; omega), p0_len]
      have hs := s1 hb hM
      by_cases h12 : k < 12
      · exact ext_end hs.1 (by rw [hs.2.1, hbF.2.2.1, he]) (by rw [hlen]; exact h12)
      · have hM' : h.p4.take k = h.p0 ++ (leB 2 h.xl.length ++ h.xl.take (k - 12)) := by
          rw [hM, take_app (by rw [leB_length]; omega), leB_length]; rfl
        exact ext_end2 hs.1 (by rw [hs.2.1, hbF.2.2.1, he]) (by rw [hlen]; omega) (xn_p0 ho.1 hM') (by rw [hlen]; omega)
  by_cases h2 : k < h.p2.length
  · cases he : h.hN with
    | false => rw [p2_no he] at h2; omega
    | true =>
      have e1 := p2_eq he
      have hl1 : h.p2.length = h.p1.length + (h.nl.length + 1) := by rw [e1]; simp
      have hM : h.p4.take k = h.p1 ++ h.nl.take (k - h.p1.length) := by
        have e : ∃ u, h.p4 = h.p2 ++ u := by
          unfold HP.p4 HP.p3
          exact ⟨_, by rw [List.append_assoc]⟩
        obtain ⟨u, hu⟩ := e
        rw [hu, List.take_append_of_le_length (by omega), e1, take_app (by omega), List.take_append_of_le_length (by omega)]
      have hs := s2 hb hk hM
      have hd : (h.p4.take k).drop (b9 (h.p4.take k)) = h.nl.take (k - h.p1.length) := by rw [hs.2.1, hM, List.drop_left' rfl]
      refine nam_bad hs.1 (by rw [fB_1 hb hM, hbF.2.2.2.1, he]) ?_ (by omega)
      rw [hd, txR_cut (by rw [List.length_take]; have := ho.2.2.1.1; omega) (nz_take_no ho.2.2.1.2.1 _)]
  by_cases h5 : k < h.p3.length
  · cases he : h.hC with
    | false => rw [p3_no he] at h5; omega
    | true =>
      have e1 := p3_eq he
      have hl1 : h.p3.length = h.p2.length + (h.cl.length + 1) := by rw [e1]; simp
      have hM : h.p4.take k = h.p2 ++ h.cl.take (k - h.p2.length) := by
        have e : ∃ u, h.p4 = h.p3 ++ u := by
          unfold HP.p4
          exact ⟨_, rfl⟩
        obtain ⟨u, hu⟩ := e
        rw [hu, List.take_append_of_le_length (by omega), e1, take_app (by omega), List.take_append_of_le_length (by omega)]
      have hs := s3 hb hk hM
      have hd : (h.p4.take k).drop (b10 (h.p4.take k)) = h.cl.take (k - h.p2.length) := by rw [hs.2.1, hM, List.drop_left' rfl]
      refine com_bad hs.1 (by rw [fB_2 hb hM, hbF.2.2.2.2, he]) ?_ (by omega)
      rw [hd, txR_cut (by rw [List.length_take]; have := ho.2.2.2.1; omega) (nz_take_no ho.2.2.2.2.1 _)]
  · cases he : h.sm with
    | false => rw [p4_no he] at hlt; omega
    | true =>
      have e1 := p4_eq he
      have hl1 : h.p4.length = h.p3.length + 2 := by rw [e1]; simp [leB_length]
      have hM : h.p4.take k = h.p3 ++ (leB 2 (cmpI (crTo (cmpI 0) h.p3 h.p3.length))).take (k - h.p3.length) := by
        rw [e1, take_app (by omega)]
      have hs := s4 hb hk hM
      exact sum_end hs.1 (by rw [fB_3 hb hM, hbF.2.1, he]) (by rw [hlen, hs.2.1]; omega)
end Go.Proofs.Ytgdmhicfeipbjaa
