import Derived.Test.YtbcmiahggfgjjaaProg
import Derived.Test.YtbcmiahggfgjjaaTokL
import Derived.Test.YtbcmiahggfgjjaaLast
namespace Go.Proofs.Ytbcmiahggfgjjaa
open Go.RowKit
set_option linter.unusedVariables false

theorem expand_append (out : List Int) (a b : List Tok) : expand out (a ++ b) = if (expand out a).1 = 0 then expand (expand out a).2 b else expand out a := by
  induction a generalizing out with
  | nil => rfl
  | cons t a ih =>
    rw [List.cons_append, expand_cons, expand_cons]
    by_cases h : (step out t).1 = 0
    · rw [if_pos h, if_pos h, ih]
    · rw [if_neg h, if_neg h, if_neg h]
theorem step_err {out : List Int} {t : Tok} (h : (step out t).1 ≠ 0) : (step out t).2 = [] := by
  unfold step at h ⊢
  split
  · rfl
  · rename_i h1
    rw [if_neg h1] at h
    split
    · rfl
    · rename_i h2
      rw [if_neg h2] at h
      split
      · rename_i h3; rw [if_pos h3] at h; exact absurd rfl h
      · rename_i h3
        rw [if_neg h3] at h
        split
        · rfl
        · rename_i h4; rw [if_neg h4] at h; exact absurd rfl h
theorem step_ok {out : List Int} {t : Tok} (h : (step out t).1 = 0) : ∃ z, (step out t).2 = out ++ z := by
  unfold step at h ⊢
  split
  · rename_i h1; rw [if_pos h1] at h; simp at h
  · rename_i h1
    rw [if_neg h1] at h
    split
    · rename_i h2; rw [if_pos h2] at h; simp at h
    · rename_i h2
      rw [if_neg h2] at h
      split
      · exact ⟨_, rfl⟩
      · rename_i h3
        rw [if_neg h3] at h
        split
        · rename_i h4; rw [if_pos h4] at h; simp at h
        · exact ⟨_, rfl⟩
theorem expand_err {out : List Int} {l : List Tok} (h : (expand out l).1 ≠ 0) : (expand out l).2 = [] := by
  induction l generalizing out with
  | nil => exact absurd rfl h
  | cons t l ih =>
    rw [expand_cons] at h ⊢
    by_cases hs : (step out t).1 = 0
    · rw [if_pos hs] at h ⊢; exact ih h
    · rw [if_neg hs] at h ⊢; exact step_err h
theorem expand_ok {out : List Int} {l : List Tok} (h : (expand out l).1 = 0) : ∃ z, (expand out l).2 = out ++ z := by
  induction l generalizing out with
  | nil => exact ⟨[], by simp [expand]⟩
  | cons t l ih =>
    rw [expand_cons] at h ⊢
    by_cases hs : (step out t).1 = 0
    · rw [if_pos hs] at h ⊢
      obtain ⟨z, hz⟩ := ih h
      obtain ⟨y, hy⟩ := step_ok hs
      exact ⟨y ++ z, by rw [hz, hy, List.append_assoc]⟩
    · rw [if_neg hs] at h; exact absurd h hs
theorem expand_le {out : List Int} {l : List Tok} (h : out.length ≤ 16777216) : (expand out l).2.length ≤ 16777216 := by
  induction l generalizing out with
  | nil => exact h
  | cons t l ih =>
    rw [expand_cons]
    by_cases hs : (step out t).1 = 0
    · rw [if_pos hs]; exact ih (step_len hs).1
    · rw [if_neg hs, step_err hs]; simp
theorem RdT.below {w w' : World} {B n : Nat} {A : Option Addr} {l : List Tok} (h : RdT w B A n l) (hb : Below B w w') : RdT w' B A n l := ⟨h.1, fun h0 => by
  obtain ⟨ad, e, hB, hc⟩ := h.2 h0
  exact ⟨ad, e, hB, fun i hi => by
    obtain ⟨c0, c1, c2⟩ := hc i hi
    exact ⟨(hb.cell (by rw [addr_block]; exact hB)).trans c0, (hb.cell (by rw [addr_block]; exact hB)).trans c1, (hb.cell (by rw [addr_block]; exact hB)).trans c2⟩⟩⟩
theorem RdT.more {w : World} {B B' n : Nat} {A : Option Addr} {l : List Tok} (h : RdT w B A n l) (hb : B ≤ B') : RdT w B' A n l := ⟨h.1, fun h0 => by
  obtain ⟨ad, e, hB, hc⟩ := h.2 h0
  exact ⟨ad, e, by omega, hc⟩⟩
theorem RdI.pre {k : IntKind} {w : World} {B n : Nat} {A : Option Addr} {l l' : List Int} (h : RdI k w B A n (l ++ l')) {m : Nat} (hm : m = l.length) : RdI k w B A m l := ⟨hm, fun h0 => by
  have h1 := h.1
  rw [List.length_append] at h1
  obtain ⟨ad, e, hB, hc⟩ := h.2 (by omega)
  exact ⟨ad, e, hB, fun i hi => by rw [hc i (by omega)]; show some (Value.int k (ix (l ++ l') i)) = some (Value.int k (ix l i)); rw [ix_append, if_pos (by omega)]⟩⟩

set_option maxRecDepth 100000 in
set_option maxHeartbeats 8000000 in
theorem tokenJoins_walk (A C : Option Addr) (n c m d : Nat) (la lb : List Tok) (w : World) (hr : RdT w w.heap.size A n la) (hs : RdT w w.heap.size C m lb) (hn : n ≤ maxLen) (hm : m ≤ maxLen) :
    Calls Try.prog 10 #[.slice A n c, .slice C m d] w fun e w' => e = .returned (.bool true) ∧ Below w.heap.size w w' := by
  by_cases hbig : 300 < (n : Int) ∨ 300 < (m : Int)
  · have h : 300 < (n : Int) ∨ (¬ 300 < (n : Int) ∧ 300 < (m : Int)) := by omega
    clear hbig hn hm
    rcases h with h | ⟨h0, h⟩
    all_goals
      go_enter Try.func10, Try.ntmps10
      go_wp2_with fail
      refine (answers8_any _).mono ?_
      rintro e w1 ⟨rfl, hb⟩
      go_wp2
      go_ret
      exact ⟨rfl, hb⟩
  · have hnI : ¬ 300 < (n : Int) ∧ ¬ 300 < (m : Int) := by omega
    have hnN : n ≤ 300 ∧ m ≤ 300 := by omega
    clear hn hm hbig
    obtain ⟨i0, hi, hz0, hz1, hz2⟩ := info_parts wtok_info
    have Hi := Lib.hid hi
    have Hz0 := Lib.hid hz0
    have Hz1 := Lib.hid hz1
    have Hz2 := Lib.hid hz2
    clear hi hz0 hz1 hz2
    have happ := Lib.hid (expand_append [] la lb)
    obtain ⟨E, hE⟩ : ∃ E : Int, (expand [] la).1 = E := ⟨_, rfl⟩
    obtain ⟨F, hF⟩ : ∃ F : Int, (expand [] (la ++ lb)).1 = F := ⟨_, rfl⟩
    have HE := Lib.hid hE
    have HFF := Lib.hid hF
    clear hE hF
    go_enter Try.func10, Try.ntmps10
    go_wp2_with fail
    refine (expand_any w A n c la hr (by omega)).mono ?_
    rintro e w1 ⟨A1, n1, c1, rfl, ho1, hb1⟩
    rw [HE.out]
    have hb1a := hb1.alloc hb1.size (.cells #[] 52)
    have hra := (hr.below hb1a)
    go_wp2_with (first
      | (at_builtin; (refine wpList_appT w.heap.size i0 rfl (.tmp 24) (.tmp 25) rfl Hi.out Hz0.out Hz1.out Hz2.out rfl (OwnT.nil0 w1 _ hb1.size) rfl hra (by omega) (by have := hb1a.size; exact this) ?_)
         intro A2 c2 w2 hown2 hg2 hat2
         have hb2 := hb1a.grown hg2 hb1a.size (fun q hq => by simp [blkOf] at hq; have := hb1.size; omega)
         have hsb := hs.below hb2
         rw [Nat.zero_add, List.nil_append] at hown2)
      | (at_builtin; (refine wpList_appT w.heap.size i0 rfl (.tmp 26) (.tmp 27) rfl Hi.out Hz0.out Hz1.out Hz2.out rfl hown2 rfl hsb (by omega) (by exact hb2.size) ?_)
         intro A3 c3 w3 hown3 hg3 hat3
         have hb3 := hb2.grown hg3 hb2.size (fun q hq => (hown2.2.lt hq).1)))
    have hbx : Below w1.heap.size w1 w3 := (((Below.refl w1.heap.size w1).alloc (Nat.le_refl _) (.cells #[] 52)).grown hg2 (by simp) (fun q hq => by simp [blkOf] at hq; omega)).grown hg3 (by have := hg2.size; simp at this; omega) (fun q hq => by
      rcases hat2 with h | h
      · rw [h] at hq; simp [blkOf] at hq; omega
      · rw [h] at hq; simp at hq; omega)
    refine (expand_any w3 A3 (n + m) c3 _ hown3.rd (by omega)).mono ?_
    rintro e w4 ⟨A4, n4, c4, rfl, ho4, hb4⟩
    rw [HFF.out]
    have hb5 := hb3.trans (hb4.mono hb3.size)
    have hx4 := ho1.keeps (hbx.trans (hb4.mono hbx.size))
    by_cases hE0 : E = 0
    · subst hE0
      by_cases hF0 : F = 0
      · subst hF0
        have h1 := happ.out
        rw [if_pos HE.out] at h1
        obtain ⟨z, hz⟩ := expand_ok (out := (expand [] la).2) (l := lb) (by rw [← h1]; exact HFF.out)
        rw [h1, hz] at ho4
        have hle : (expand [] la).2.length ≤ 16777216 := expand_le (by simp)
        obtain ⟨X, hX⟩ : ∃ X, (expand [] la).2 = X := ⟨_, rfl⟩
        rw [hX] at hx4 ho4 hle
        have hn1 := hx4.1
        have hn4 := ho4.1
        rw [List.length_append, ← hn1] at hn4
        rw [← hn1] at hle
        have hge : (n1 : Int) ≤ (n4 : Int) := by omega
        have hcap := ho4.2.capLe
        have hn1c : n1 ≤ c4 := by omega
        have hn14 : n1 ≤ n4 := by omega
        have HLE : Hid ((n1 : Int) ≤ 1000000000) := by show _ ≤ _; omega
        clear hle hX h1 hz hn1 hn4
        go_wp2_with fail
        refine (answers8_any _).mono ?_
        rintro e w5 ⟨rfl, hb6⟩
        have hx5 := hx4.keeps hb6
        have hy5 := ho4.keeps hb6
        have hb7 := hb5.trans (hb6.mono hb5.size)
        go_wp2_with fail
        refine (same_any w5 w5.heap.size n1 _ n1 _ _ _ _ X (RdI.pre hy5.rd hx5.1) hx5.rd HLE.out rfl).mono ?_
        rintro e w6 ⟨rfl, q, rfl⟩
        go_wp2
        go_ret
        exact ⟨rfl, below_drewN hb7 q⟩
      · have hF1 : (F == 0) = false := by simpa using hF0
        go_wp2_with fail
        refine (answers8_any _).mono ?_
        rintro e w5 ⟨rfl, hb6⟩
        go_wp2
        go_ret
        exact ⟨rfl, hb5.trans (hb6.mono hb5.size)⟩
    · have hE1 : (E == 0) = false := by simpa using hE0
      have h1 := happ.out
      rw [if_neg (by rw [HE.out]; exact hE0)] at h1
      have hFE : E = F := by rw [← HE.out, ← HFF.out, h1]
      subst hFE
      have hem := expand_err (out := []) (l := la) (by rw [HE.out]; exact hE0)
      rw [h1, hem] at ho4
      obtain rfl : n4 = 0 := ho4.1
      clear h1 hem
      go_wp2_with fail
      refine (answers8_any _).mono ?_
      rintro e w5 ⟨rfl, hb6⟩
      go_wp2
      go_ret
      exact ⟨rfl, hb5.trans (hb6.mono hb5.size)⟩
end Go.Proofs.Ytbcmiahggfgjjaa
