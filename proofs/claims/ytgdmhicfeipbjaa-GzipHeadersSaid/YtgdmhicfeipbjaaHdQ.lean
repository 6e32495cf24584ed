/-
  Plain law: ParseHeader's steps, one fault at a time, as the reference meets them.
-/
import Derived.Test.YtgdmhicfeipbjaaHdC
namespace Go.Proofs.Ytgdmhicfeipbjaa
set_option linter.unusedVariables false

theorem tk_bad {l : List Int} {a : Nat} {e : Int} {m : Nat} (h : e ≠ 0) : tkF l a e m = e := by unfold tkF; rw [if_neg (fun h1 => h h1.1)]
theorem tk_end {l : List Int} {a m : Nat} (h : l.length - a < m) : tkF l a 0 m = 5 := by unfold tkF; rw [if_pos ⟨rfl, h⟩]
theorem tk_ok {l : List Int} {a m : Nat} (h : m ≤ l.length - a) : tkF l a 0 m = 0 ∧ tkA l a 0 m = a + m ∧ tkL l a 0 m = (l.drop a).take m := by
  have h0 : tkF l a 0 m = 0 := by unfold tkF; rw [if_neg (fun h1 => by omega)]
  refine ⟨h0, ?_, ?_⟩
  · unfold tkA; rw [if_pos h0]
  · unfold tkL; rw [if_pos h0]
theorem on_ok {l : List Int} {a : Nat} (h : 1 ≤ l.length - a) : onB l a 0 = ix l a := by unfold onB; rw [if_pos (tk_ok h).1]
theorem wt_bad {l : List Int} {a : Nat} {e c : Int} (h : e ≠ 0) : wtE l a e c = e := by unfold wtE; rw [tk_bad h, if_neg (fun h1 => h h1.1)]
theorem wt_end {l : List Int} {a : Nat} {c : Int} (h : l.length ≤ a) : wtE l a 0 c = 5 := by unfold wtE; rw [tk_end (by omega), if_neg (fun h1 => by have := h1.1; omega)]
theorem wt_form {l : List Int} {a : Nat} {c : Int} (h : a < l.length) (h' : ix l a ≠ c) : wtE l a 0 c = 2 := by unfold wtE; rw [if_pos ⟨(tk_ok (by omega)).1, h'⟩]
theorem wt_ok {l : List Int} {a : Nat} {c : Int} (h : a < l.length) (h' : ix l a = c) : wtE l a 0 c = 0 := by unfold wtE; rw [if_neg (fun h1 => h1.2 h')]; exact (tk_ok (by omega)).1

theorem st11 {l : List Int} (h : q11 l ≠ 0) : q12 l = q11 l := by unfold q12; rw [if_neg (fun h1 => h h1.2)]
theorem st10 {l : List Int} (h : q10 l ≠ 0) : q12 l = q10 l := by
  have e : q11 l = q10 l := by unfold q11 txF; split <;> first | rfl | rw [if_neg h]
  rw [← e]; exact st11 (by rw [e]; exact h)
theorem st9 {l : List Int} (h : q9 l ≠ 0) : q12 l = q9 l := by
  have e : q10 l = q9 l := by unfold q10 txF; split <;> first | rfl | rw [if_neg h]
  rw [← e]; exact st10 (by rw [e]; exact h)
theorem st7 {l : List Int} (h : q7 l ≠ 0) : q12 l = q7 l := by
  have e : q9 l = q7 l := by
    unfold q9
    split
    · have : q8 l = q7 l := tk_bad h
      rw [this, tk_bad h]
    · rfl
  rw [← e]; exact st9 (by rw [e]; exact h)
theorem st5 {l : List Int} (h : q5 l ≠ 0) : q12 l = q5 l := by
  have e6 : q6 l = q5 l := tk_bad h
  have e7 : q7 l = q6 l := tk_bad (by rw [e6]; exact h)
  rw [← e6, ← e7]; exact st7 (by rw [e7, e6]; exact h)
theorem st6 {l : List Int} (h : q6 l ≠ 0) : q12 l = q6 l := by
  have e7 : q7 l = q6 l := tk_bad h
  rw [← e7]; exact st7 (by rw [e7]; exact h)
theorem st4 {l : List Int} (h : q4 l ≠ 0) : q12 l = q4 l := by
  have e : q5 l = q4 l := tk_bad h
  rw [← e]; exact st5 (by rw [e]; exact h)
theorem gt_bad {e f : Int} (h : e ≠ 0) : gtE e f = e := by unfold gtE; rw [if_neg (fun h1 => h h1.1)]
theorem st3 {l : List Int} (h : q3 l ≠ 0) : q12 l = q3 l := by
  have e : q4 l = q3 l := by unfold q4; rw [tk_bad h, gt_bad h]
  rw [← e]; exact st4 (by rw [e]; exact h)
theorem st2 {l : List Int} (h : q2 l ≠ 0) : q12 l = q2 l := by
  have e : q3 l = q2 l := wt_bad h
  rw [← e]; exact st3 (by rw [e]; exact h)
theorem st1 {l : List Int} (h : q1 l ≠ 0) : q12 l = q1 l := by
  have e : q2 l = q1 l := wt_bad h
  rw [← e]; exact st2 (by rw [e]; exact h)

/-- the first k bytes are a member's -/
def magic : List Int := [31, 139, 8]
def pre (l : List Int) (k : Nat) : Prop := ∀ i, i < k → i < l.length ∧ ix l i = ix magic i
theorem pre1 {l : List Int} (h : pre l 1) : q1 l = 0 ∧ b1 l = 1 := ⟨wt_ok (h 0 (by omega)).1 (h 0 (by omega)).2, (tk_ok (by have := (h 0 (by omega)).1; omega)).2.1⟩
theorem pre2 {l : List Int} (h : pre l 2) : q2 l = 0 ∧ b2 l = 2 := by
  have h1 := pre1 (fun i hi => h i (by omega))
  have h2 := h 1 (by omega)
  unfold q2 b2
  rw [h1.1, h1.2]
  exact ⟨wt_ok h2.1 h2.2, (tk_ok (by omega)).2.1⟩
theorem pre3 {l : List Int} (h : pre l 3) : q3 l = 0 ∧ b3 l = 3 := by
  have h1 := pre2 (fun i hi => h i (by omega))
  have h2 := h 2 (by omega)
  unfold q3 b3
  rw [h1.1, h1.2]
  exact ⟨wt_ok h2.1 h2.2, (tk_ok (by omega)).2.1⟩
theorem pre_end {l : List Int} {k : Nat} (hk : k < 3) (h : pre l k) (hl : l.length ≤ k) : q12 l = 5 := by
  obtain rfl | rfl | rfl : k = 0 ∨ k = 1 ∨ k = 2 := by omega
  · have e : q1 l = 5 := wt_end hl
    rw [st1 (by omega), e]
  · have h1 := pre1 h
    have e : q2 l = 5 := by unfold q2; rw [h1.1, h1.2]; exact wt_end hl
    rw [st2 (by omega), e]
  · have h1 := pre2 h
    have e : q3 l = 5 := by unfold q3; rw [h1.1, h1.2]; exact wt_end hl
    rw [st3 (by omega), e]
theorem pre_form {l : List Int} {k : Nat} (hk : k < 3) (h : pre l k) (hl : k < l.length) (hx : ix l k ≠ ix magic k) : q12 l = 2 := by
  obtain rfl | rfl | rfl : k = 0 ∨ k = 1 ∨ k = 2 := by omega
  · have e : q1 l = 2 := wt_form hl hx
    rw [st1 (by omega), e]
  · have h1 := pre1 h
    have e : q2 l = 2 := by unfold q2; rw [h1.1, h1.2]; exact wt_form hl hx
    rw [st2 (by omega), e]
  · have h1 := pre2 h
    have e : q3 l = 2 := by unfold q3; rw [h1.1, h1.2]; exact wt_form hl hx
    rw [st3 (by omega), e]
theorem len4 {l : List Int} (h : pre l 3) (hl : l.length < 4) : q12 l = 5 := by
  have h3 := pre3 h
  have e : q4 l = 5 := by unfold q4; rw [h3.1, h3.2, tk_end (by omega), gt_bad (by omega)]
  rw [st4 (by omega), e]
theorem fB_at {l : List Int} (h : pre l 3) (hl : 4 ≤ l.length) : fB l = ix l 3 := by
  have h3 := pre3 h
  unfold fB; rw [h3.1, h3.2, on_ok (by omega)]
theorem flg_bad {l : List Int} (h : pre l 3) (hl : 4 ≤ l.length) (hf : 31 < ix l 3) : q12 l = 2 := by
  have h3 := pre3 h
  have e : q4 l = 2 := by unfold q4 gtE; rw [fB_at h hl, h3.1, h3.2, (tk_ok (by omega)).1, if_pos ⟨rfl, hf⟩]
  rw [st4 (by omega), e]
theorem flg_ok {l : List Int} (h : pre l 3) (hl : 4 ≤ l.length) (hf : ¬ 31 < ix l 3) : q4 l = 0 ∧ b4 l = 4 := by
  have h3 := pre3 h
  unfold q4 b4 gtE
  rw [fB_at h hl, h3.1, h3.2, (tk_ok (by omega)).1, (tk_ok (by omega)).2.1, if_neg (fun h1 => hf h1.2)]
  exact ⟨rfl, rfl⟩
theorem len10 {l : List Int} (h : pre l 3) (hl : 4 ≤ l.length) (hf : ¬ 31 < ix l 3) (h9 : l.length < 10) : q12 l = 5 := by
  have h4 := flg_ok h hl hf
  by_cases h8 : l.length < 8
  · have e : q5 l = 5 := by unfold q5; rw [h4.1, h4.2, tk_end (by omega)]
    rw [st5 (by omega), e]
  have e5 : q5 l = 0 := by unfold q5; rw [h4.1, h4.2]; exact (tk_ok (by omega)).1
  have f5 : b5 l = 8 := by unfold b5; rw [h4.1, h4.2]; exact (tk_ok (by omega)).2.1
  by_cases h7 : l.length < 9
  · have e : q6 l = 5 := by unfold q6; rw [e5, f5, tk_end (by omega)]
    rw [st6 (by omega), e]
  have e6 : q6 l = 0 := by unfold q6; rw [e5, f5]; exact (tk_ok (by omega)).1
  have f6 : b6 l = 9 := by unfold b6; rw [e5, f5]; exact (tk_ok (by omega)).2.1
  have e : q7 l = 5 := by unfold q7; rw [e6, f6, tk_end (by omega)]
  rw [st7 (by omega), e]
/-- the first ten bytes are there -/
def ten (l : List Int) : Prop := q7 l = 0 ∧ b7 l = 10 ∧ fB l = ix l 3 ∧ tmV l = leI ((l.drop 4).take 4) ∧ flV l = ix l 8 ∧ syV l = ix l 9
theorem ten_ok {l : List Int} (h : pre l 3) (hf : ¬ 31 < ix l 3) (h9 : 10 ≤ l.length) : ten l := by
  have h4 := flg_ok h (by omega) hf
  have e5 : q5 l = 0 := by unfold q5; rw [h4.1, h4.2]; exact (tk_ok (by omega)).1
  have f5 : b5 l = 8 := by unfold b5; rw [h4.1, h4.2]; exact (tk_ok (by omega)).2.1
  have e6 : q6 l = 0 := by unfold q6; rw [e5, f5]; exact (tk_ok (by omega)).1
  have f6 : b6 l = 9 := by unfold b6; rw [e5, f5]; exact (tk_ok (by omega)).2.1
  refine ⟨?_, ?_, fB_at h (by omega), ?_, ?_, ?_⟩
  · unfold q7; rw [e6, f6]; exact (tk_ok (by omega)).1
  · unfold b7; rw [e6, f6]; exact (tk_ok (by omega)).2.1
  · unfold tmV; rw [h4.1, h4.2, (tk_ok (by omega)).2.2]
  · unfold flV; rw [e5, f5, on_ok (by omega)]
  · unfold syV; rw [e6, f6, on_ok (by omega)]
theorem ext_no {l : List Int} (h : ten l) (hb : bit (fB l) 4 = false) : q9 l = 0 ∧ b9 l = 10 ∧ exL l = [] := by
  unfold q9 b9 exL
  simp [hb, h.1, h.2.1]
theorem ext_end {l : List Int} (h : ten l) (hb : bit (fB l) 4 = true) (hl : l.length < 12) : q12 l = 5 := by
  have e8 : q8 l = 5 := by unfold q8; rw [h.1, h.2.1, tk_end (by omega)]
  have e : q9 l = 5 := by unfold q9; rw [hb, if_pos rfl, e8, tk_bad (by omega)]
  rw [st9 (by omega), e]
theorem ext_n {l : List Int} (h : ten l) (hl : 12 ≤ l.length) : q8 l = 0 ∧ b8 l = 12 ∧ xnV l = leI ((l.drop 10).take 2) := by
  have := tk_ok (l := l) (a := 10) (m := 2) (by omega)
  unfold q8 b8 xnV
  rw [h.1, h.2.1]
  exact ⟨this.1, this.2.1, by rw [this.2.2]⟩
theorem ext_end2 {l : List Int} (h : ten l) (hb : bit (fB l) 4 = true) (hl : 12 ≤ l.length) {N : Nat} (hN : leI ((l.drop 10).take 2) = N) (h2 : l.length < 12 + N) : q12 l = 5 := by
  have e := ext_n h hl
  have e : q9 l = 5 := by unfold q9; rw [hb, if_pos rfl, e.1, e.2.1, e.2.2, hN]; exact tk_end (by omega)
  rw [st9 (by omega), e]
theorem ext_ok {l : List Int} (h : ten l) (hb : bit (fB l) 4 = true) {N : Nat} (hl : 12 ≤ l.length) (hN : leI ((l.drop 10).take 2) = N) (h2 : 12 + N ≤ l.length) : q9 l = 0 ∧ b9 l = 12 + N ∧ exL l = (l.drop 12).take N := by
  have e := ext_n h hl
  have := tk_ok (l := l) (a := 12) (m := N) (by omega)
  unfold q9 b9 exL
  rw [hb, if_pos rfl, if_pos rfl, if_pos rfl, e.1, e.2.1, e.2.2, hN]
  exact this
theorem nam_no {l : List Int} (h : q9 l = 0) (hb : bit (fB l) 8 = false) : q10 l = 0 ∧ b10 l = b9 l ∧ nmL l = [] := by
  unfold q10 b10 nmL
  simp [hb, h]
theorem nam_bad {l : List Int} (h : q9 l = 0) (hb : bit (fB l) 8 = true) {e : Int} (he : (txR (l.drop (b9 l))).2.2 = e) (h0 : e ≠ 0) : q12 l = e := by
  have e1 : q10 l = e := by unfold q10 txF; rw [hb, if_pos rfl, if_pos h, he]
  rw [st10 (by omega), e1]
theorem nam_ok {l : List Int} (h : q9 l = 0) (hb : bit (fB l) 8 = true) (he : (txR (l.drop (b9 l))).2.2 = 0) : q10 l = 0 ∧ b10 l = b9 l + (txR (l.drop (b9 l))).2.1 ∧ nmL l = (txR (l.drop (b9 l))).1 := by
  unfold q10 b10 nmL txF txA txL
  simp [hb, h, he]
theorem com_no {l : List Int} (h : q10 l = 0) (hb : bit (fB l) 16 = false) : q11 l = 0 ∧ b11 l = b10 l ∧ cmL l = [] := by
  unfold q11 b11 cmL
  simp [hb, h]
theorem com_bad {l : List Int} (h : q10 l = 0) (hb : bit (fB l) 16 = true) {e : Int} (he : (txR (l.drop (b10 l))).2.2 = e) (h0 : e ≠ 0) : q12 l = e := by
  have e1 : q11 l = e := by unfold q11 txF; rw [hb, if_pos rfl, if_pos h, he]
  rw [st11 (by omega), e1]
theorem com_ok {l : List Int} (h : q10 l = 0) (hb : bit (fB l) 16 = true) (he : (txR (l.drop (b10 l))).2.2 = 0) : q11 l = 0 ∧ b11 l = b10 l + (txR (l.drop (b10 l))).2.1 ∧ cmL l = (txR (l.drop (b10 l))).1 := by
  unfold q11 b11 cmL txF txA txL
  simp [hb, h, he]
theorem sum_no {l : List Int} (h : q11 l = 0) (hb : bit (fB l) 2 = false) : q12 l = 0 ∧ b12 l = b11 l := by
  have : ¬ smC l := fun h1 => by have := h1.1; rw [hb] at this; cases this
  unfold q12 b12
  rw [if_neg this, if_neg this]
  exact ⟨h, rfl⟩
theorem sum_end {l : List Int} (h : q11 l = 0) (hb : bit (fB l) 2 = true) (hl : l.length < b11 l + 2) : q12 l = 5 := by
  unfold q12
  rw [if_pos ⟨hb, h⟩, h, tk_end (by omega), if_neg (fun h1 => by have := h1.1; omega)]
theorem sum_bad {l : List Int} (h : q11 l = 0) (hb : bit (fB l) 2 = true) (hl : b11 l + 2 ≤ l.length) (hx : leI ((l.drop (b11 l)).take 2) ≠ crcV l) : q12 l = 4 := by
  have := tk_ok (l := l) (a := b11 l) (m := 2) (by omega)
  unfold q12
  rw [if_pos ⟨hb, h⟩, h, this.2.2, if_pos ⟨this.1, hx⟩]
theorem sum_ok {l : List Int} (h : q11 l = 0) (hb : bit (fB l) 2 = true) (hl : b11 l + 2 ≤ l.length) (hx : leI ((l.drop (b11 l)).take 2) = crcV l) : q12 l = 0 ∧ b12 l = b11 l + 2 := by
  have := tk_ok (l := l) (a := b11 l) (m := 2) (by omega)
  have hs : smC l := ⟨hb, h⟩
  unfold q12 b12
  rw [if_pos hs, if_pos hs, h, this.2.2, this.1, if_neg (fun h1 => h1.2 hx)]
  exact ⟨rfl, this.2.1⟩
theorem txR_len (r : List Int) : (txR r).2.1 ≤ r.length := by
  unfold txR
  split
  · show nz r + 1 ≤ _; omega
  · split <;> exact Nat.zero_le _
end Go.Proofs.Ytgdmhicfeipbjaa
