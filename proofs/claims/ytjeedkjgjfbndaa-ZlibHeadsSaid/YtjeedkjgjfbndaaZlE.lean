/-
  The walks of a zlib decoder's step and Take.
-/
import Derived.Test.YtjeedkjgjfbndaaZlD
namespace Go.Proofs.Ytjeedkjgjfbndaa
open Go.RowKit
set_option linter.unusedVariables false
theorem steps_mu {s t : IS} (h : IS.Steps s t) : t.mu ≤ s.mu := by
  induction h with
  | refl => exact Nat.le_refl _
  | tail _ h2 ih => exact Nat.le_trans (Nat.le_of_lt (IS.mu_step h2)) ih
theorem zfin_short (x : List Int) (m : Nat) (h8 : (zFin x m).2 = 8) : (zFin x m).1.x.length ≤ (bts (x.drop 2)).length := by
  obtain ⟨t, h1, h2⟩ := IS.fin_steps (start (bts (x.drop 2)) m)
  have e : t.step.2 = 8 := by rw [h2]; exact h8
  have e1 : (zFin x m).1 = t := by
    show (start (bts (x.drop 2)) m).fin.1 = t
    rw [← h2]; exact (IS.step_done e).1
  rw [e1]
  have h3 := steps_mu h1
  have h4 : 3 * t.x.length ≤ t.mu := by unfold IS.mu; omega
  have h5 : (start (bts (x.drop 2)) m).mu = 3 * (bts (x.drop 2)).length := by unfold IS.mu; rw [if_neg (by show ¬ (0 : Nat) = 4; omega), if_neg (by show ¬ ((0 : Nat) = 5 ∨ (0 : Nat) = 2); omega)]; rfl
  omega
def rkZ (Z : ZR) : Nat := match Z.p with | none => 2 | some _ => if Z.beh then 0 else 1
def StpPost (w : World) (b0 g : Nat) (E : Nat → Prop) (x a : List Int) (m : Nat) (en : Bool) (er : Int) (rk n : Nat) (e : Ending) (w' : World) : Prop :=
  ∃ A k cp l r c Z, e = .returned (.tuple #[.slice A k cp, .int .i64 r]) ∧ RdI .u8 w' w'.heap.size A k l ∧ l.length ≤ n ∧ ZlC w' b0 g c Z ∧ ZPh w' (g + 1) c x (a ++ l) Z ∧ Z.m = m ∧ Z.en = en ∧ Z.err = er ∧ Z.sum = adlF 1 (a ++ l) ∧ Ext b0 w w' E (zX g c Z.A) ∧
    ((r = 0 ∧ (rkZ Z < rk ∨ (rkZ Z = rk ∧ 0 < l.length))) ∨ (r ≠ 0 ∧ l = [] ∧ a = zAll x m ∧ r = zE x m en))
set_option maxRecDepth 100000 in
set_option maxHeartbeats 4000000 in
theorem zstep_any (w : World) (b0 g : Nat) (c : Nat → Nat) (Z : ZR) (x a : List Int) (h1 : ZlC w b0 g c Z) (h2 : ZPh w (g + 1) c x a Z) (hs : Z.sum = adlF 1 a) (herr : Z.err = 0) (hm : Z.m ≤ 1000000000) (hxl : x.length ≤ 1000000000) (n : Nat) (hn0 : 0 < n) (hnm : n ≤ 1000000000) :
    Calls Try.prog 10 #[.pointer (some ⟨g, 0, none⟩), .int .i64 n] w (StpPost w b0 g (zX g c Z.A) x a Z.m Z.en 0 (rkZ Z) n) := by
  obtain ⟨-, -, k2, k3, -, -, -, -⟩ := h1.cells
  rcases h2 with ⟨hp, q2, q3, q4, q5, q6⟩ | ⟨bI, gd, M, S, hp, hbI, hM, hz, ⟨p1, p2, p3, p4, p5, p6, p7, p8⟩ | ⟨p1, p2, p3, R, p4, p5, p6⟩⟩
  · have HB := Lib.hid (zbegin_any w b0 g c Z x h1 hp q2 q3 q4 q6 herr hm (by rw [hs, q5]; decide) (by omega))
    have hbad : Hid (∀ q, zHd x ≠ 0 → StpPost w b0 g (zX g c Z.A) x a Z.m Z.en 0 (rkZ Z) n (.returned (.tuple #[.slice none 0 0, .int .i64 (zHd x)])) (w.drewN q)) := fun q hz => by
      have hbq : Below w.heap.size w (w.drewN q) := (Chg.drewN (Chg.refl w (fun _ => False)) q).below (fun _ h => h.elim) (Nat.le_refl _)
      refine ⟨none, 0, 0, [], zHd x, c, Z, rfl, ⟨rfl, Rd.nil_⟩, Nat.zero_le _, h1.keeps hbq, ?_, rfl, rfl, herr, by rw [List.append_nil]; exact hs, ⟨(Chg.drewN (Chg.refl w (fun _ => False)) q).below (fun _ h => h.elim) h1.low, Chg.drewN (Chg.refl _ _) q, fun k hk => .inl hk⟩, .inr ⟨hz, rfl, ?_, ?_⟩⟩
      · rw [List.append_nil]; exact .inl ⟨hp, q2, q3, q4, q5, q6⟩
      · rw [q5]; unfold zAll; rw [if_pos hz]
      · unfold zE; rw [if_pos hz]
    have HRK := Lib.hid (show rkZ Z = 2 by unfold rkZ; rw [hp])
    have HA := Lib.hid q5
    rw [hp] at k2
    clear h1 hs herr hm hxl q2 q3 q4 q5 q6 hp hn0 hnm
    go_enter Try.func10, Try.ntmps10
    go_wp2_with fail
    refine HB.out.mono ?_
    rintro e w5 (⟨hz, rfl, q, rfl⟩ | ⟨hz, rfl, c5, Z5, r1, r2, r3, r4, r5, r6, r7, r8, r9⟩)
    · have hf := Lib.hid (hbad.out q hz)
      clear hbad
      go_wp2_with fail
      go_returns
      exact hf.out
    · have hf : Hid (StpPost w b0 g (zX g c Z.A) x a Z.m Z.en 0 (rkZ Z) n (.returned (.tuple #[.slice none 0 0, .int .i64 0])) w5) := by
        refine ⟨none, 0, 0, [], 0, c5, Z5, rfl, ⟨rfl, Rd.nil_⟩, Nat.zero_le _, r1, ?_, r3, r4, r6, ?_, r9, .inl ⟨rfl, .inl ?_⟩⟩
        · rw [HA.out]; exact r2
        · rw [r5, HA.out]; decide
        · rw [HRK.out]; unfold rkZ
          cases hp5 : Z5.p with
          | none => exact absurd hp5 r7
          | some _ => simp only [r8]; decide
      clear hbad r1 r2 r3 r4 r5 r6 r7 r8 r9
      go_wp2_with fail
      go_returns
      exact hf.out
  · have HB := Lib.hid (zbytes_any w b0 g c Z x a h1 bI gd M S hp hbI hM hz p1 p2 p3 p4 p5 p6 p7 p8 hs n hn0 hnm)
    have HRK := Lib.hid (show rkZ Z = 1 by unfold rkZ; rw [hp, p1]; rfl)
    have HP := Lib.hid (⟨hp, herr⟩ : _ ∧ _)
    rw [hp] at k2
    rw [p1] at k3
    clear h1 hs herr hm hxl hM hz p1 p2 p3 p4 p5 p6 p7 p8 hp hn0 hnm
    go_enter Try.func10, Try.ntmps10
    go_wp2_with fail
    refine HB.out.mono ?_
    rintro e w5 ⟨A5, k5, d5, l5, r, c5, Z5, rfl, r1, r2, r3, r4, r5, r6, r7, r8, r9, r10, hcs⟩
    have hf : Hid (StpPost w b0 g (zX g c Z.A) x a Z.m Z.en 0 (rkZ Z) n (.returned (.tuple #[.slice A5 k5 d5, .int .i64 r])) w5) := by
      refine ⟨A5, k5, d5, l5, r, c5, Z5, rfl, r1, r2, r3, r4, r5, r6, r7.trans HP.out.2, r9, r10, ?_⟩
      have hrk : rkZ Z5 = if Z5.beh then 0 else 1 := by unfold rkZ; rw [r8, HP.out.1]
      rcases hcs with ⟨h, ⟨h3, h4⟩ | ⟨h3, h4⟩⟩ | ⟨h, h3, h4, h5, h6⟩
      · exact .inl ⟨h, .inl (by rw [hrk, HRK.out, h3]; decide)⟩
      · exact .inl ⟨h, .inr ⟨by rw [hrk, HRK.out, h3]; rfl, h4⟩⟩
      · exact .inr ⟨h, h3, h5, h6⟩
    clear r1 r2 r3 r4 r5 r6 r7 r8 r9 r10 hcs
    go_wp2_with fail
    go_returns
    exact hf.out
  · have hRl : R.length ≤ 100000000000 := by
      have e : (bts R).length ≤ (bts (x.drop 2)).length := by
        rw [p4]
        exact zfin_short x Z.m p2
      rw [bts_length, bts_length, List.length_drop] at e
      omega
    have HB := Lib.hid (zend2_any w b0 g c Z x a R h1 bI gd M S hp hbI hM hz p1 p2 p3 p4 p5 hRl p6)
    have hr : Hid (zTl R Z.sum Z.en = zE x Z.m Z.en) := by
      show _ = _
      unfold zE
      rw [if_neg (by rw [hz]; decide), if_neg (by rw [p2]; decide), ← p4, byt_bts p5, hs, p3]
    have hall : Hid (a = zAll x Z.m) := by show _ = _; unfold zAll; rw [if_neg (by rw [hz]; decide)]; exact p3
    have HP := Lib.hid (⟨hs, herr⟩ : _ ∧ _)
    rw [hp] at k2
    rw [p1] at k3
    clear h1 hs herr hm hxl hM hz p1 p2 p3 p4 p5 p6 hp hn0 hnm hRl
    go_enter Try.func10, Try.ntmps10
    go_wp2_with fail
    refine HB.out.mono ?_
    rintro e w5 ⟨rfl, Z5, r1, r2, r3, r4, r5, r6, r7, r8, r9⟩
    have hf : Hid (StpPost w b0 g (zX g c Z.A) x a Z.m Z.en 0 (rkZ Z) n (.returned (.tuple #[.slice none 0 0, .int .i64 (zTl R Z.sum Z.en)])) w5) := by
      refine ⟨none, 0, 0, [], zTl R Z.sum Z.en, c, Z5, rfl, ⟨rfl, Rd.nil_⟩, Nat.zero_le _, r1, by rw [List.append_nil]; exact r2, r3, r5, r6.trans HP.out.2, by rw [List.append_nil, r4]; exact HP.out.1, r9, .inr ⟨by rw [hr.out]; exact zE_ne _ _ _, rfl, hall.out, hr.out⟩⟩
    obtain ⟨v, hv⟩ : ∃ v, zTl R Z.sum Z.en = v := ⟨_, rfl⟩
    rw [hv] at hf ⊢
    clear r1 r2 r3 r4 r5 r6 r7 r8 r9 hv hr
    go_wp2_with fail
    go_returns
    exact hf.out
end Go.Proofs.Ytjeedkjgjfbndaa
