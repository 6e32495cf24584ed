/-
  The walk of the finder's Tokens.
-/
import Derived.Test.YtlnmicocmbdbdaaFndE
import Derived.Test.YtlnmicocmbdbdaaTokL
namespace Go.Proofs.Ytlnmicocmbdbdaa
open Go.RowKit Go.Maps
set_option linter.unusedVariables false

theorem RdT.lit (w : World) (t : Tok) : RdT (w.alloc (.cells #[.int .u8 t.lit, .int .i64 t.len, .int .i64 t.dist] 32)) (w.heap.size + 1) (some ⟨w.heap.size, 0, none⟩) 1 [t] := by
  have h := tf_new w t.lit t.len t.dist 32
  refine ⟨rfl, fun _ => ⟨_, rfl, by simp, fun i hi => ?_⟩⟩
  obtain rfl : i = 0 := by omega
  exact ⟨by rw [addr0]; exact h.cell (i := 0) (by omega), by rw [addr0]; exact h.cell (i := 1) (by omega), by rw [addr0]; exact h.cell (i := 2) (by omega)⟩
def TokensPost (w : World) (b0 g : Nat) (e : Eff) (st : FSt) (left : Nat) (A : Option Addr) (n c gm : Nat) (Ap : Option Addr) (np cp : Nat) (r : Ending) (w' : World) : Prop :=
  ∃ (l : List Tok) (st' : FSt) (At : Option Addr) (nt ct : Nat), r = .returned (.slice At nt ct) ∧ Run e left st l st' ∧ st'.D.length - st'.at_ ≤ left ∧ OwnT w' w.heap.size At nt ct l ∧ (∃ nm Dm, FndC w' b0 g e st' st'.at_ A n c gm nm Dm Ap np cp) ∧ Chg w w' (FF A gm Ap g)
def TokensRel (w : World) (b0 g : Nat) (e : Eff) (st : FSt) (left : Nat) (A : Option Addr) (n c gm : Nat) (Ap : Option Addr) (np cp : Nat) (gk : Nat) (o : Value) (wr : World) : Prop :=
  ∃ (l : List Tok) (st' : FSt) (At : Option Addr) (nt ct nm : Nat) (Dm : DataW Unit), o = .slice At nt ct ∧ Run e left st l st' ∧ OwnT wr w.heap.size At nt ct l ∧ FndC wr b0 g e st' st'.at_ A n c gm nm Dm Ap np cp ∧ Chg w wr (FF A gm Ap g) ∧ Hid (gk + st'.at_ = st'.D.length)
theorem mtokens_nil (w : World) (v : Bool) : Calls Try.prog 15 #[.pointer none, .bool v] w fun r w' => r = .returned (.slice none 0 0) ∧ w = w' := by
  go_enter Try.func15, Try.ntmps15
  go_wp2
  go_ret
  exact ⟨rfl, rfl⟩
section
variable {w w' w1 w2 : World} {b0 g b n c gm nm np cp : Nat} {e : Eff} {st : FSt} {A Ap : Option Addr} {Dm : DataW Unit}
set_option maxRecDepth 100000 in
set_option maxHeartbeats 4000000 in
theorem mtokens_any (fin : Bool) (h : FndC w b0 g e st st.at_ A n c gm nm Dm Ap np cp) :
    Calls Try.prog 15 #[.pointer (some ⟨g, 0, none⟩), .bool fin] w (TokensPost w b0 g e st (if fin then 0 else 261) A n c gm Ap np cp) := by
  obtain ⟨left, hleft⟩ : ∃ left, (if fin then 0 else 261) = left := ⟨_, rfl⟩
  have hst : TokensRel w b0 g e st left A n c gm Ap np cp (st.D.length - st.at_) (.slice none 0 0) w := ⟨[], st, none, 0, 0, nm, Dm, rfl, .nil st, ⟨rfl, Own.nil_⟩, h, Chg.refl w _, by show _ = _; have := h.ok.hi; omega⟩
  rw [hleft]
  obtain ⟨i0, hi, hz0, hz1, hz2⟩ := info_parts wtok_info
  have Hi := Lib.hid hi
  have Hz0 := Lib.hid hz0
  have Hz1 := Lib.hid hz1
  have Hz2 := Lib.hid hz2
  have hok := Lib.hid h.ok
  have hbig := Lib.hid h.big
  have hFF : Hid (∀ k, w.heap.size ≤ k → ¬ FF A gm Ap g k) := fun k hk hF => by have := (h.foot_lo hF).2; omega
  have hFF2 : Hid (∀ k, FF A gm Ap g k → k < w.heap.size) := fun k hk => (h.foot_lo hk).2
  have hls : (fin = true ∧ left = 0) ∨ (fin = false ∧ left = 261) := by cases fin <;> simp at hleft <;> simp [hleft]
  clear hi hz0 hz1 hz2 hleft
  go_enter Try.func15, Try.ntmps15
  rcases hls with ⟨rfl, rfl⟩ | ⟨rfl, rfl⟩
  · go_wp2_with fail
    go_loopg [5] (st.D.length - st.at_) (TokensRel w b0 g e st _ A n c gm Ap np cp)
    case atStart => exact hst
    case round =>
      clear hst
      obtain ⟨l, st', At, nt, ct, nm', Dm', rfl, hrun, ho, hf, hc, hgk⟩ := hrel
      have hr := run_ok hrun hok.out
      have hw := waiting_any hf
      obtain ⟨W, hW⟩ : ∃ W, st'.D.length - st'.at_ = W := ⟨_, rfl⟩
      rw [hW] at hw
      have hnt : nt ≤ 100000000000 := by have := ho.1; have := hr.2.2.1; have := hr.1.hi; have := congrArg List.length hr.2.1; have := hbig.out; omega
      have HW := Lib.hid hW
      clear hW hr
      by_cases hlt : (0 : Int) < (W : Int)
      · have hlt2 : Hid (st'.at_ < st'.D.length) := by show _ < _; have := HW.out; omega
        obtain ⟨N1, hN1, -, hN3, -, hD2, hat2, -, -⟩ := next_ok (e := e) hf.ok hlt2.out
        have hmeas : Hid ((nextF e st').2.D.length - (nextF e st').2.at_ < gk ∧ (nextF e st').2.at_ ≤ (nextF e st').2.D.length) := by show _ < _ ∧ _ ≤ _; rw [hD2, hat2]; have := hgk.out; omega
        have hrun2 := Run.snoc hrun (show _ < _ by have := HW.out; omega)
        clear hN1 hN3 hD2 hat2
        go_wp2_with fail
        refine hw.mono ?_
        rintro r w5 ⟨rfl, q5, rfl⟩
        have hf5 := hf.drewN q5
        have hc5 := hc.drewN q5
        have ho5 : OwnT (wr.drewN q5) w.heap.size At nt ct l := ⟨ho.1, ho.2.drewN q5⟩
        go_wp2_with fail
        refine (next_any hf5 hlt2.out).mono ?_
        rintro r w6 ⟨rfl, ⟨nm6, Dm6, hf6⟩, hc6⟩
        have ho6 : OwnT w6 w.heap.size At nt ct l := ⟨ho5.1, hc6.own ho5.2 fun q hq => hFF.out q (ho5.2.lt hq).1⟩
        have hc56 := hc5.trans hc6 fun k hk => .inl hk
        obtain ⟨R, hR⟩ : ∃ R, nextF e st' = R := ⟨_, rfl⟩
        rw [hR] at hf6 hmeas hrun2 ⊢
        obtain ⟨⟨tl, tn, td⟩, st2⟩ := R
        dsimp only at hf6 hmeas hrun2 ⊢
        have hlit := RdT.lit w6 ⟨tl, tn, td⟩
        dsimp only at hlit
        have hfa := hf6.keeps ((Below.refl _ w6).alloc (Nat.le_refl _) (.cells #[.int .u8 tl, .int .i64 tn, .int .i64 td] 32))
        have hca := hc56.trans (Chg.of_below (S := FF A gm Ap g) ((Below.refl _ w6).alloc (Nat.le_refl _) (.cells #[.int .u8 tl, .int .i64 tn, .int .i64 td] 32))) fun k hk => .inl hk
        have hoa : OwnT (w6.alloc (.cells #[.int .u8 tl, .int .i64 tn, .int .i64 td] 32)) w.heap.size At nt ct l := ⟨ho6.1, ho6.2.alloc _⟩
        have hwsz := hca.size
        clear hf5 hc5 ho5 hc6 ho6 hR hf6 hc56
        go_wp2_with (at_builtin; (refine wpList_appT w.heap.size i0 rfl (.tmp 14) (.tmp 17) rfl Hi.out Hz0.out Hz1.out Hz2.out rfl hoa rfl hlit (by omega) hwsz ?_)
                     intro A7 c7 w7 ho7 hg7 hat7)
        have hrow : Chg (w6.alloc (.cells #[.int .u8 tl, .int .i64 tn, .int .i64 td] 32)) w7 (fun k => w.heap.size ≤ k) := (Chg.refl _ _).grown hg7 fun k hk => .inl (hoa.2.lt hk).1
        have hf7 := hfa.chg hrow fun k hk h2 => by have := hFF2.out k hk; omega
        have hc7 := hca.trans hrow fun k hk => .inr hk
        go_roundg (st2.D.length - st2.at_)
        case measure => exact hmeas.out.1
        case rel => exact ⟨_, st2, A7, nt + 1, c7, nm6, Dm6, rfl, hrun2, ho7, hf7, hc7, by show _ = _; have := hmeas.out.2; omega⟩
      · go_wp2_with fail
        refine hw.mono ?_
        rintro r w5 ⟨rfl, q5, rfl⟩
        go_wp2_with fail
        go_returns
        exact ⟨l, st', At, nt, ct, rfl, hrun, by have := HW.out; omega, ⟨ho.1, ho.2.drewN q5⟩, ⟨nm', Dm', hf.drewN q5⟩, hc.drewN q5⟩
  · go_wp2_with fail
    go_loopg [5] (st.D.length - st.at_) (TokensRel w b0 g e st _ A n c gm Ap np cp)
    case atStart => exact hst
    case round =>
      clear hst
      obtain ⟨l, st', At, nt, ct, nm', Dm', rfl, hrun, ho, hf, hc, hgk⟩ := hrel
      have hr := run_ok hrun hok.out
      have hw := waiting_any hf
      obtain ⟨W, hW⟩ : ∃ W, st'.D.length - st'.at_ = W := ⟨_, rfl⟩
      rw [hW] at hw
      have hnt : nt ≤ 100000000000 := by have := ho.1; have := hr.2.2.1; have := hr.1.hi; have := congrArg List.length hr.2.1; have := hbig.out; omega
      have HW := Lib.hid hW
      clear hW hr
      by_cases hlt : (261 : Int) < (W : Int)
      · have hlt2 : Hid (st'.at_ < st'.D.length) := by show _ < _; have := HW.out; omega
        obtain ⟨N1, hN1, -, hN3, -, hD2, hat2, -, -⟩ := next_ok (e := e) hf.ok hlt2.out
        have hmeas : Hid ((nextF e st').2.D.length - (nextF e st').2.at_ < gk ∧ (nextF e st').2.at_ ≤ (nextF e st').2.D.length) := by show _ < _ ∧ _ ≤ _; rw [hD2, hat2]; have := hgk.out; omega
        have hrun2 := Run.snoc hrun (show _ < _ by have := HW.out; omega)
        clear hN1 hN3 hD2 hat2
        go_wp2_with fail
        refine hw.mono ?_
        rintro r w5 ⟨rfl, q5, rfl⟩
        have hf5 := hf.drewN q5
        have hc5 := hc.drewN q5
        have ho5 : OwnT (wr.drewN q5) w.heap.size At nt ct l := ⟨ho.1, ho.2.drewN q5⟩
        go_wp2_with fail
        refine (next_any hf5 hlt2.out).mono ?_
        rintro r w6 ⟨rfl, ⟨nm6, Dm6, hf6⟩, hc6⟩
        have ho6 : OwnT w6 w.heap.size At nt ct l := ⟨ho5.1, hc6.own ho5.2 fun q hq => hFF.out q (ho5.2.lt hq).1⟩
        have hc56 := hc5.trans hc6 fun k hk => .inl hk
        obtain ⟨R, hR⟩ : ∃ R, nextF e st' = R := ⟨_, rfl⟩
        rw [hR] at hf6 hmeas hrun2 ⊢
        obtain ⟨⟨tl, tn, td⟩, st2⟩ := R
        dsimp only at hf6 hmeas hrun2 ⊢
        have hlit := RdT.lit w6 ⟨tl, tn, td⟩
        dsimp only at hlit
        have hfa := hf6.keeps ((Below.refl _ w6).alloc (Nat.le_refl _) (.cells #[.int .u8 tl, .int .i64 tn, .int .i64 td] 32))
        have hca := hc56.trans (Chg.of_below (S := FF A gm Ap g) ((Below.refl _ w6).alloc (Nat.le_refl _) (.cells #[.int .u8 tl, .int .i64 tn, .int .i64 td] 32))) fun k hk => .inl hk
        have hoa : OwnT (w6.alloc (.cells #[.int .u8 tl, .int .i64 tn, .int .i64 td] 32)) w.heap.size At nt ct l := ⟨ho6.1, ho6.2.alloc _⟩
        have hwsz := hca.size
        clear hf5 hc5 ho5 hc6 ho6 hR hf6 hc56
        go_wp2_with (at_builtin; (refine wpList_appT w.heap.size i0 rfl (.tmp 14) (.tmp 17) rfl Hi.out Hz0.out Hz1.out Hz2.out rfl hoa rfl hlit (by omega) hwsz ?_)
                     intro A7 c7 w7 ho7 hg7 hat7)
        have hrow : Chg (w6.alloc (.cells #[.int .u8 tl, .int .i64 tn, .int .i64 td] 32)) w7 (fun k => w.heap.size ≤ k) := (Chg.refl _ _).grown hg7 fun k hk => .inl (hoa.2.lt hk).1
        have hf7 := hfa.chg hrow fun k hk h2 => by have := hFF2.out k hk; omega
        have hc7 := hca.trans hrow fun k hk => .inr hk
        go_roundg (st2.D.length - st2.at_)
        case measure => exact hmeas.out.1
        case rel => exact ⟨_, st2, A7, nt + 1, c7, nm6, Dm6, rfl, hrun2, ho7, hf7, hc7, by show _ = _; have := hmeas.out.2; omega⟩
      · go_wp2_with fail
        refine hw.mono ?_
        rintro r w5 ⟨rfl, q5, rfl⟩
        go_wp2_with fail
        go_returns
        exact ⟨l, st', At, nt, ct, rfl, hrun, by have := HW.out; omega, ⟨ho.1, ho.2.drewN q5⟩, ⟨nm', Dm', hf.drewN q5⟩, hc.drewN q5⟩
end
end Go.Proofs.Ytlnmicocmbdbdaa
