/-
  Several texts in one (written by pack2.py): DefQ, DefR.
-/
import Derived.Test.YtlgkiookobedcaaPk21
namespace Go.Proofs.Ytlgkiookobedcaa
open Go.RowKit
set_option linter.unusedVariables false
theorem nextF_lit {e : Eff} {st : FSt} (hD : ∀ x ∈ st.D, 0 ≤ x ∧ x < 256) (hlt : st.at_ < st.D.length) : 0 ≤ (nextF e st).1.lit ∧ (nextF e st).1.lit < 256 := by
  have h1 : 0 ≤ (litAt st).lit ∧ (litAt st).lit < 256 := hD _ (ix_mem hlt)
  unfold nextF
  split
  · exact h1
  · split
    · split
      · exact h1
      · exact ⟨Int.le_refl 0, (by decide : (0 : Int) < 256)⟩
    · exact ⟨Int.le_refl 0, (by decide : (0 : Int) < 256)⟩
theorem tokF_spec {e : Eff} {left : Nat} : ∀ (k : Nat) (st : FSt), st.Ok st.at_ → (∀ x ∈ st.D, 0 ≤ x ∧ x < 256) →
    Run e left st (tokF e left k st).1 (tokF e left k st).2 ∧ (tokF e left k st).2.Ok (tokF e left k st).2.at_ ∧ (tokF e left k st).2.D = st.D ∧ (∀ t ∈ (tokF e left k st).1, 0 ≤ t.lit ∧ t.lit < 256) ∧
    (st.D.length - st.at_ ≤ k → st.D.length - (tokF e left k st).2.at_ ≤ left)
  | 0, st, hok, hD => ⟨.nil st, hok, rfl, fun t ht => by simp [tokF] at ht, fun h => by have : (tokF e left 0 st).2 = st := rfl; rw [this]; omega⟩
  | k + 1, st, hok, hD => by
    unfold tokF
    by_cases h : left < st.D.length - st.at_
    · rw [if_pos h]
      obtain ⟨N, n1, n2, n3, n4, n5, n6, n7⟩ := next_ok (e := e) hok (by omega)
      obtain ⟨h1, h2, h3, h4, h5⟩ := tokF_spec (e := e) (left := left) k (nextF e st).2 (by rw [n6]; exact n4) (by rw [n5]; exact hD)
      refine ⟨Run.cons_ h h1, h2, h3.trans n5, fun t ht => ?_, fun hk => ?_⟩
      · rcases List.mem_cons.1 ht with rfl | ht
        · exact nextF_lit hD (by omega)
        · exact h4 t ht
      · have := h5 (by rw [n5, n6]; omega)
        rw [n5] at this
        exact this
    · rw [if_neg h]
      exact ⟨.nil st, hok, rfl, fun t ht => by simp at ht, fun _ => by show st.D.length - st.at_ ≤ left; omega⟩
theorem drainD_ind {I : DSt → Prop} (h : ∀ d, I d → 0 < fullE d.toks → I (layD d (fullE d.toks) false)) : ∀ k d, I d → I (drainD k d)
  | 0, d, hd => hd
  | k + 1, d, hd => by
    unfold drainD
    split
    · rename_i h1; exact drainD_ind h k _ (h d hd h1)
    · exact hd
theorem drainL_ind {I : DSt → Prop} (h : ∀ d, I d → 0 < fullE d.toks → I (layD d (fullE d.toks) false)) : ∀ k d, I d → I (drainL k d)
  | 0, d, hd => hd
  | k + 1, d, hd => by
    unfold drainL
    split
    · rename_i h1; exact drainL_ind h k _ (h d hd h1.1)
    · exact hd
theorem fullE_le (l : List Tok) : fullE l ≤ l.length := by have := (fullGo_bd l 0 0).1; unfold fullE; omega
theorem drainL_end : ∀ k d, d.toks.length ≤ k → fullE (drainL k d).toks = 0 ∨ (drainL k d).toks.length ≤ fullE (drainL k d).toks
  | 0, d, h => by have := fullE_le d.toks; exact .inl (by show fullE d.toks = 0; omega)
  | k + 1, d, h => by
    unfold drainL
    split
    · refine drainL_end k _ ?_
      show (d.toks.drop _).length ≤ k
      rw [List.length_drop]; omega
    · omega
theorem drainD_keep : ∀ k d, (drainD k d).lev = d.lev ∧ (drainD k d).f = d.f := fun k d => by
  have := drainD_ind (I := fun x => x.lev = d.lev ∧ x.f = d.f) (fun x hx _ => hx) k d ⟨rfl, rfl⟩
  exact this
theorem drainL_keep : ∀ k d, (drainL k d).lev = d.lev ∧ (drainL k d).f = d.f := fun k d => by
  have := drainL_ind (I := fun x => x.lev = d.lev ∧ x.f = d.f) (fun x hx _ => hx) k d ⟨rfl, rfl⟩
  exact this
structure DGap (P : List Int) (d : DSt) (all stops : List Int) : Prop where
  gap : ∀ i, i < stops.length → ix stops i - (if i = 0 then 0 else ix stops (i - 1)) ≤ 16642
  top : (if stops.length = 0 then 0 else ix stops (stops.length - 1)) = (all.length : Int)
  size : P.length + d.L.length ≤ 8 * all.length + 48 * stops.length
  cnt : 16384 * stops.length ≤ all.length
def DInv (X P : List Int) (d : DSt) : Prop := ∃ all kinds stops btoks pre, DOk X P d all kinds stops btoks pre
def DInvG (X P : List Int) (d : DSt) : Prop := ∃ all kinds stops btoks pre, DOk X P d all kinds stops btoks pre ∧ DGap P d all stops
theorem full_n {X P : List Int} {d : DSt} {all kinds stops : List Int} {btoks pre : List Tok} (h : DOk X P d all kinds stops btoks pre) (hf : 0 < fullE d.toks) : 16384 ≤ lensT (d.toks.take (fullE d.toks)) ∧ lensT (d.toks.take (fullE d.toks)) ≤ 16641 := by
  have := fullGo_sum d.toks 0 0 h.sound (by omega) hf
  rw [Nat.sub_zero, Nat.zero_add] at this
  exact this
theorem DInv.lay {X P : List Int} {d : DSt} (h : DInv X P d) (hf : 0 < fullE d.toks) : DInv X P (layD d (fullE d.toks) false) := by
  obtain ⟨all, kinds, stops, btoks, pre, h⟩ := h
  obtain ⟨bt, h2⟩ := h.lay (fullE d.toks) (by have := full_n h hf; omega)
  exact ⟨_, _, _, _, _, h2⟩
theorem lay_size {X P : List Int} {d : DSt} {all kinds stops : List Int} {btoks pre : List Tok} (h : DOk X P d all kinds stops btoks pre) (count : Nat) (last : Bool) (hn : lensT (d.toks.take count) ≤ 65535) :
    (layD d count last).L.length ≤ d.L.length + 8 * lensT (d.toks.take count) + 42 := by
  have hlit : ∀ t ∈ d.toks.take count, 0 ≤ t.lit ∧ t.lit < 256 := fun t ht => h.lit t (List.mem_of_mem_take ht)
  have hrl : (d.raw.take (lensT (d.toks.take count))).length = lensT (d.toks.take count) := by rw [List.length_take]; have := (h.first count).2; omega
  obtain ⟨k0, k1, k2⟩ := layK_ok (lev := d.lev) (fun t ht => h.sound t (List.mem_of_mem_take ht)) hlit hn
  show (outB _ _ _ _ _).length ≤ _
  by_cases hk : layK d.lev (d.toks.take count) = 0
  · rw [hk]
    unfold outB
    rw [if_pos rfl]
    unfold stoB
    rw [List.length_append, List.length_append, List.length_append, ofN_length, ofN_length, evn_length, hd3_len, bts_length, hrl]
    omega
  · have hl : ¬ d.lev ≤ 0 := fun h0 => hk (k0 h0)
    rw [if_neg hl]
    rw [if_neg hl] at k2
    have ho := out_len (kind := layK d.lev (d.toks.take count)) (l := d.toks.take count) (raw := d.raw.take (lensT (d.toks.take count))) (L := d.L) (last := last) (by rw [hrl]; exact k2) hlit (fun h0 => absurd h0 hk)
    rw [hrl] at ho
    have hc : costB (layK d.lev (d.toks.take count)) (d.toks.take count) (lensT (d.toks.take count)) ≤ 40 + 8 * (lensT (d.toks.take count) : Int) := by
      have e0 : cstK (d.toks.take count) (lensT (d.toks.take count)) 0 = 40 + 8 * (lensT (d.toks.take count) : Int) := by
        unfold cstK
        have hb0 : bkMay ((0 : Nat) : Int) (d.toks.take count) (lensT (d.toks.take count)) = true := by unfold bkMay; rw [if_pos (show ((0 : Nat) : Int) = 0 from rfl)]; exact decide_eq_true hn
        rw [if_pos hb0]; unfold costB; rw [if_pos (show ((0 : Nat) : Int) = 0 from rfl)]
      obtain ⟨p1, p2⟩ := pickK_some (cstK (d.toks.take count) (lensT (d.toks.take count))) 3 0 (by omega) (by rw [e0]; omega)
      rw [e0] at p2
      have hlk : layK d.lev (d.toks.take count) = (pickK (cstK (d.toks.take count) (lensT (d.toks.take count))) 3).1 := by unfold layK; rw [if_neg hl]
      rcases pickK_in (cstK (d.toks.take count) (lensT (d.toks.take count))) 3 with h2 | ⟨i, _, h3, h4, h5⟩
      · omega
      · rw [h4] at p2
        have e2 : cstK (d.toks.take count) (lensT (d.toks.take count)) i = costB (i : Int) (d.toks.take count) (lensT (d.toks.take count)) := by unfold cstK; rw [if_pos (cst_may h5)]
        rw [e2] at p2
        rw [hlk, h3]; exact p2
    omega
theorem DInvG.lay {X P : List Int} {d : DSt} (h : DInvG X P d) (hf : 0 < fullE d.toks) : DInvG X P (layD d (fullE d.toks) false) := by
  obtain ⟨all, kinds, stops, btoks, pre, h, hg⟩ := h
  have hn := full_n h hf
  obtain ⟨bt, h2⟩ := h.lay (fullE d.toks) (by omega)
  have hs := lay_size h (fullE d.toks) false (by omega)
  have hrl : (d.raw.take (lensT (d.toks.take (fullE d.toks)))).length = lensT (d.toks.take (fullE d.toks)) := by rw [List.length_take]; have := (h.first (fullE d.toks)).2; omega
  have hal : (all ++ d.raw.take (lensT (d.toks.take (fullE d.toks)))).length = all.length + lensT (d.toks.take (fullE d.toks)) := by rw [List.length_append, hrl]
  refine ⟨_, _, _, _, _, h2, ⟨fun i hi => ?_, ?_, ?_, ?_⟩⟩
  · rw [List.length_append, List.length_singleton] at hi
    by_cases h1 : i < stops.length
    · have := hg.gap i h1
      rw [ix_append, if_pos h1]
      by_cases h0 : i = 0
      · rw [if_pos h0] at this ⊢; exact this
      · rw [if_neg h0] at this ⊢
        rw [ix_append, if_pos (by omega)]; exact this
    · obtain rfl : i = stops.length := by omega
      rw [ix_append, if_neg (by omega), Nat.sub_self]
      have e1 : ix [((all ++ d.raw.take (lensT (d.toks.take (fullE d.toks)))).length : Int)] 0 = ((all ++ d.raw.take (lensT (d.toks.take (fullE d.toks)))).length : Int) := rfl
      rw [e1, hal]
      have ht := hg.top
      by_cases h0 : stops.length = 0
      · rw [if_pos h0] at ht ⊢; omega
      · rw [if_neg h0] at ht ⊢
        rw [ix_append, if_pos (by omega), ht]; omega
  · rw [List.length_append, List.length_singleton, if_neg (by omega), Nat.add_sub_cancel, ix_append, if_neg (by omega), Nat.sub_self]; rfl
  · rw [hal, List.length_append, List.length_singleton]
    have := hg.size
    omega
  · rw [hal, List.length_append, List.length_singleton]
    have := hg.cnt
    omega
end Go.Proofs.Ytlgkiookobedcaa
namespace Go.Proofs.Ytlgkiookobedcaa
open Go.RowKit
set_option linter.unusedVariables false
section
variable {X P : List Int} {d : DSt} {all kinds stops : List Int} {btoks pre : List Tok}
theorem DOk.toksD (h : DOk X P d all kinds stops btoks pre) (left : Nat) : DOk X P (toksD left d) all kinds stops btoks pre ∧ X.length - (toksD left d).f.at_ ≤ left := by
  obtain ⟨h1, h2, h3, h4, h5⟩ := tokF_spec (e := effOf d.lev) (left := left) (d.f.D.length - d.f.at_) d.f h.fok (by rw [h.fd]; exact h.by_)
  refine ⟨h.tokens left h1 h2 h3 h4, ?_⟩
  have h6 := h5 (Nat.le_refl _)
  have e : X.length = d.f.D.length := by rw [h.fd]
  rw [e]; exact h6
theorem DGap.same {d2 : DSt} (h : DGap P d all stops) (hL : d2.L = d.L) : DGap P d2 all stops := ⟨h.gap, h.top, by rw [hL]; exact h.size, h.cnt⟩
theorem DInv.drain (h : DInv X P d) (k : Nat) : DInv X P (drainD k d) := drainD_ind (fun _ q hf => q.lay hf) k d h
theorem DInvG.drain (h : DInvG X P d) (k : Nat) : DInvG X P (drainD k d) := drainD_ind (fun _ q hf => q.lay hf) k d h
theorem DInv.drainL (h : DInv X P d) (k : Nat) : DInv X P (drainL k d) := drainL_ind (fun _ q hf => q.lay hf) k d h
theorem DInvG.drainL (h : DInvG X P d) (k : Nat) : DInvG X P (drainL k d) := drainL_ind (fun _ q hf => q.lay hf) k d h
theorem DInv.chunk (h : DInv X P d) {x : List Int} (hx : (X ++ x).length ≤ 16777216) (hby : ∀ v ∈ x, 0 ≤ v ∧ v < 256) : DInv (X ++ x) P (chunkD d x) := by
  obtain ⟨all, kinds, stops, btoks, pre, h⟩ := h
  exact DInv.drain ⟨all, kinds, stops, btoks, pre, ((h.grow x hx hby).toksD 261).1⟩ _
theorem DInvG.chunk (h : DInvG X P d) {x : List Int} (hx : (X ++ x).length ≤ 16777216) (hby : ∀ v ∈ x, 0 ≤ v ∧ v < 256) : DInvG (X ++ x) P (chunkD d x) := by
  obtain ⟨all, kinds, stops, btoks, pre, h, hg⟩ := h
  exact DInvG.drain ⟨all, kinds, stops, btoks, pre, ((h.grow x hx hby).toksD 261).1, hg.same rfl⟩ _
theorem write_ind {I : List Int → DSt → Prop} (hc : ∀ X d x, I X d → (X ++ x).length ≤ 16777216 → (∀ v ∈ x, 0 ≤ v ∧ v < 256) → I (X ++ x) (chunkD d x)) :
    ∀ (k : Nat) (X : List Int) (d : DSt) (b : List Int), b.length ≤ k → I X d → (X ++ b).length ≤ 16777216 → (∀ v ∈ b, 0 ≤ v ∧ v < 256) → I (X ++ b) (writeD k d b)
  | 0, X, d, b, hk, h, _, _ => by
    have : b = [] := List.eq_nil_of_length_eq_zero (by omega)
    subst this
    rw [List.append_nil]; exact h
  | k + 1, X, d, b, hk, h, hl, hb => by
    unfold writeD
    split
    · rename_i h0
      rw [List.length_append] at hl
      have ih := write_ind hc k (X ++ b.take (min b.length 16384)) (chunkD d (b.take (min b.length 16384))) (b.drop (min b.length 16384)) (by rw [List.length_drop]; omega)
        (hc X d _ h (by rw [List.length_append, List.length_take]; omega) fun v hv => hb v (List.mem_of_mem_take hv))
        (by rw [List.append_assoc, List.take_append_drop, List.length_append]; exact hl) fun v hv => hb v (List.mem_of_mem_drop hv)
      rw [List.append_assoc, List.take_append_drop] at ih
      exact ih
    · have : b = [] := List.eq_nil_of_length_eq_zero (by omega)
      subst this
      rw [List.append_nil]; exact h
theorem DInv.write (h : DInv X P d) {b : List Int} (hl : (X ++ b).length ≤ 16777216) (hb : ∀ v ∈ b, 0 ≤ v ∧ v < 256) {k : Nat} (hk : b.length ≤ k) : DInv (X ++ b) P (writeD k d b) :=
  write_ind (I := fun X d => DInv X P d) (fun _ _ _ q h1 h2 => q.chunk h1 h2) k X d b hk h hl hb
theorem DInvG.write (h : DInvG X P d) {b : List Int} (hl : (X ++ b).length ≤ 16777216) (hb : ∀ v ∈ b, 0 ≤ v ∧ v < 256) {k : Nat} (hk : b.length ≤ k) : DInvG (X ++ b) P (writeD k d b) :=
  write_ind (I := fun X d => DInvG X P d) (fun _ _ _ q h1 h2 => q.chunk h1 h2) k X d b hk h hl hb
theorem rest_end (h : DOk X P (restD d) all kinds stops btoks pre) (hat : X.length - (toksD 0 d).f.at_ ≤ 0) : lensT (restD d).toks ≤ 16641 ∧ lensT (restD d).toks = (restD d).raw.length := by
  have hk := drainL_keep (toksD 0 d).toks.length (toksD 0 d)
  have he : fullE (restD d).toks = 0 ∨ (restD d).toks.length ≤ fullE (restD d).toks := drainL_end (toksD 0 d).toks.length (toksD 0 d) (Nat.le_refl _)
  have hl := h.lens
  have hr : X.length = all.length + (restD d).raw.length := by rw [← h.rwx, List.length_append]
  have hle : (restD d).f.at_ ≤ X.length := by have := h.fok.hi; rw [h.fd] at this; exact this
  have hf : (restD d).f.at_ = (toksD 0 d).f.at_ := by show (drainL _ _).f.at_ = _; rw [hk.2]
  refine ⟨?_, by omega⟩
  rcases he with he | he
  · have := fullGo_none (restD d).toks 0 0 (by omega) he
    omega
  · by_cases h0 : 0 < fullE (restD d).toks
    · have := full_n h h0
      rw [List.take_of_length_le he] at this
      omega
    · have := fullGo_none (restD d).toks 0 0 (by omega) (show fullGo 0 0 (restD d).toks = 0 by unfold fullE at h0; omega)
      omega
theorem DInv.rest (h : DInv X P d) : ∃ all kinds stops btoks pre, DOk X P (restD d) all kinds stops btoks pre ∧ lensT (restD d).toks ≤ 16641 ∧ lensT (restD d).toks = (restD d).raw.length := by
  obtain ⟨all, kinds, stops, btoks, pre, h⟩ := h
  obtain ⟨h1, h2⟩ := h.toksD 0
  obtain ⟨a, b, c, e, f, h3⟩ := DInv.drainL ⟨all, kinds, stops, btoks, pre, h1⟩ (toksD 0 d).toks.length
  exact ⟨a, b, c, e, f, h3, rest_end h3 h2⟩
theorem DInvG.rest (h : DInvG X P d) : ∃ all kinds stops btoks pre, DOk X P (restD d) all kinds stops btoks pre ∧ DGap P (restD d) all stops ∧ lensT (restD d).toks ≤ 16641 ∧ lensT (restD d).toks = (restD d).raw.length := by
  obtain ⟨all, kinds, stops, btoks, pre, h, hg⟩ := h
  obtain ⟨h1, h2⟩ := h.toksD 0
  obtain ⟨a, b, c, e, f, h3, h4⟩ := DInvG.drainL ⟨all, kinds, stops, btoks, pre, h1, hg.same rfl⟩ (toksD 0 d).toks.length
  exact ⟨a, b, c, e, f, h3, h4, rest_end h3 h2⟩
theorem DInv.close (h : DInv X P d) : ∃ t, (start (P ++ (closeD d).L) 16777216).fin = (t, 8) ∧ t.x = [] ∧ t.all = X ∧ (P ++ (closeD d).L).length % 8 = 0 ∧ Bit (P ++ (closeD d).L) := by
  obtain ⟨all, kinds, stops, btoks, pre, h, h1, h2⟩ := h.rest
  have et : (restD d).toks.take (restD d).toks.length = (restD d).toks := List.take_of_length_le (Nat.le_refl _)
  obtain ⟨bt, hE⟩ := h.last (restD d).toks.length (by rw [et]; omega)
  rw [et, h2, List.take_of_length_le (Nat.le_refl _), h.rwx] at hE
  have e1 : P ++ (closeD d).L = evn (P ++ (layD (restD d) (restD d).toks.length true).L) := (evn_app h.ev).symm
  obtain ⟨t, t1, t2, t3, _⟩ := hE.fin
  rw [e1]
  exact ⟨t, t1, t2, t3, evn_even _, Bit.evn hE.1⟩
theorem DInvG.close (h : DInvG X P d) : ∃ t, (start (P ++ (closeD d).L) 16777216).fin = (t, 8) ∧ t.x = [] ∧ t.all = X ∧ (P ++ (closeD d).L).length % 8 = 0 ∧ Bit (P ++ (closeD d).L) ∧
    (d.lev ≤ 0 → ∀ k ∈ t.kinds, k = 0) ∧ t.kinds.length = t.stops.length ∧ (∀ i, i < t.stops.length → ix t.stops i - (if i = 0 then 0 else ix t.stops (i - 1)) ≤ 16642) ∧ (P ++ (closeD d).L).length ≤ 8 * X.length + 48 * (X.length / 16384 + 1) ∧ ∀ s ∈ t.stops, 0 ≤ s ∧ s ≤ 16777216 := by
  obtain ⟨all, kinds, stops, btoks, pre, h, hg, h1, h2⟩ := h.rest
  have et : (restD d).toks.take (restD d).toks.length = (restD d).toks := List.take_of_length_le (Nat.le_refl _)
  obtain ⟨bt, hE⟩ := h.last (restD d).toks.length (by rw [et]; omega)
  have hs := lay_size h (restD d).toks.length true (by rw [et]; omega)
  rw [et] at hs
  have hXl : X.length = all.length + (restD d).raw.length := by rw [← h.rwx, List.length_append]
  rw [et, h2, List.take_of_length_le (Nat.le_refl _), h.rwx] at hE
  have e1 : P ++ (closeD d).L = evn (P ++ (layD (restD d) (restD d).toks.length true).L) := (evn_app h.ev).symm
  have hlev : (restD d).lev = d.lev := (drainL_keep _ _).1
  obtain ⟨t, t1, t2, t3, t4, t5, _⟩ := hE.fin
  rw [e1]
  have hkl := h.kl.1
  have hsz := hg.size
  have hct := hg.cnt
  refine ⟨t, t1, t2, t3, evn_even _, Bit.evn hE.1, fun hl k hk => ?_, ?_, fun i hi => ?_, ?_, fun s hs => ?_⟩
  · rw [t4] at hk
    rcases List.mem_append.1 hk with hk | hk
    · exact h.st0 (by rw [hlev]; exact hl) k hk
    · rw [List.mem_singleton.1 hk]; unfold layK; rw [if_pos (by rw [hlev]; exact hl)]
  · rw [t4, t5, List.length_append, List.length_append, hkl]; rfl
  · rw [t5] at hi ⊢
    rw [List.length_append, List.length_singleton] at hi
    by_cases h3 : i < stops.length
    · have := hg.gap i h3
      rw [ix_append, if_pos h3]
      by_cases h0 : i = 0
      · rw [if_pos h0] at this ⊢; exact this
      · rw [if_neg h0] at this ⊢
        rw [ix_append, if_pos (by omega)]; exact this
    · obtain rfl : i = stops.length := by omega
      rw [ix_append, if_neg (by omega), Nat.sub_self]
      have e2 : ix [((X.length : Nat) : Int)] 0 = ((X.length : Nat) : Int) := rfl
      rw [e2]
      have ht := hg.top
      by_cases h0 : stops.length = 0
      · rw [if_pos h0] at ht ⊢; omega
      · rw [if_neg h0] at ht ⊢
        rw [ix_append, if_pos (by omega), ht]; omega
  · rw [evn_length, List.length_append]
    omega
  · rw [t5] at hs
    rcases List.mem_append.1 hs with hs | hs
    · exact h.kl.2 s hs
    · rw [List.mem_singleton.1 hs]; have := h.big; omega
theorem Reads.lacks {M : Nat} {L : List Int} (h : Reads M L all kinds stops btoks) (hev : L.length % 8 = 0) : ∃ t, (start L M).fin = (t, 5) ∧ t.all = all ∧ t.x = [] := by
  obtain ⟨hb, hM, hR⟩ := h
  obtain ⟨t, s, b1, b2, b3, _⟩ := hR [] Bit.nil_ (by simpa using hev)
  rw [List.append_nil] at s
  refine ⟨t, ?_, b3, b2⟩
  rw [← s.fin_eq]
  have e5 : t.step = (t, 5) := by
    unfold IS.step
    rw [if_pos b1]
    unfold IS.block
    rw [b2, if_pos (by decide)]
  rw [IS.fin_stop (by rw [e5]; simp), e5]
theorem lay_raw (d : DSt) (h : lensT d.toks = d.raw.length) : (layD d d.toks.length false).raw = [] ∧ (layD d d.toks.length false).toks = [] := by
  have et : d.toks.take d.toks.length = d.toks := List.take_of_length_le (Nat.le_refl _)
  constructor
  · show d.raw.drop (lensT (d.toks.take d.toks.length)) = []
    rw [et, h]; simp
  · show d.toks.drop d.toks.length = []
    simp
theorem DInv.flush (h : DInv X P d) : DInv X P (flushD d) ∧ (flushD d).L.length % 8 = 0 ∧ ∃ t, (start (P ++ (flushD d).L) 16777216).fin = (t, 5) ∧ t.all = X ∧ Bit (P ++ (flushD d).L) := by
  obtain ⟨all, kinds, stops, btoks, pre, h, h1, h2⟩ := h.rest
  have hstep : ∃ all kinds stops btoks pre, DOk X P (if 0 < (restD d).toks.length then layD (restD d) (restD d).toks.length false else restD d) all kinds stops btoks pre ∧ (if 0 < (restD d).toks.length then layD (restD d) (restD d).toks.length false else restD d).raw = [] := by
    by_cases h0 : 0 < (restD d).toks.length
    · rw [if_pos h0]
      obtain ⟨bt, h3⟩ := h.lay (restD d).toks.length (by rw [List.take_of_length_le (Nat.le_refl _)]; omega)
      exact ⟨_, _, _, _, _, h3, (lay_raw _ h2).1⟩
    · rw [if_neg h0]
      have ht : (restD d).toks = [] := List.eq_nil_of_length_eq_zero (by omega)
      refine ⟨_, _, _, _, _, h, List.eq_nil_of_length_eq_zero ?_⟩
      rw [← h2, ht]; rfl
  obtain ⟨d2, hd2⟩ : ∃ q, (if 0 < (restD d).toks.length then layD (restD d) (restD d).toks.length false else restD d) = q := ⟨_, rfl⟩
  rw [hd2] at hstep
  have hfl : flushD d = { d2 with L := outB 0 [] [] false d2.L } := by rw [← hd2]; rfl
  rw [hfl]
  obtain ⟨all, kinds, stops, btoks, pre, h, hr⟩ := hstep
  have hX : all = X := by have := h.rwx; rw [hr, List.append_nil] at this; exact this
  have hR := h.rd.next (kind := 0) (l := []) (raw := []) (by decide) (fun x hx => by simp at hx) (fun t ht => by simp at ht) (fun h0 => absurd rfl h0) (by unfold blkAll; rw [if_pos rfl, List.append_nil, hX]; exact h.big)
  have eb : blkAll 0 [] [] all = all := by unfold blkAll; rw [if_pos rfl, List.append_nil]
  rw [eb, outB_app h.ev] at hR
  have hev : (outB 0 [] [] false d2.L).length % 8 = 0 := by
    unfold outB
    rw [if_pos rfl]
    unfold stoB
    rw [List.length_append, List.length_append, List.length_append, ofN_length, ofN_length]
    have := evn_even (hd3 0 false d2.L)
    show ((evn (hd3 0 false d2.L)).length + 16 + 16 + (bts []).length) % 8 = 0
    rw [bts_length, List.length_nil]; omega
  refine ⟨⟨_, _, _, _, _, ⟨h.big, h.by_, h.ev, h.fd, h.fok, h.rwx, h.prx, h.tok, h.lit, hR, fun hl k hk => ?_, ?_⟩⟩, hev, ?_⟩
  · rcases List.mem_append.1 hk with hk | hk
    · exact h.st0 hl k hk
    · exact List.mem_singleton.1 hk
  · refine ⟨by rw [List.length_append, List.length_append, h.kl.1]; rfl, fun s hs => ?_⟩
    rcases List.mem_append.1 hs with hs | hs
    · exact h.kl.2 s hs
    · rw [List.mem_singleton.1 hs, hX]; have := h.big; omega
  · obtain ⟨t, t1, t2, _⟩ := hR.lacks (by rw [List.length_append]; have := h.ev; omega)
    exact ⟨t, t1, t2.trans hX, hR.1⟩
end
end Go.Proofs.Ytlgkiookobedcaa
