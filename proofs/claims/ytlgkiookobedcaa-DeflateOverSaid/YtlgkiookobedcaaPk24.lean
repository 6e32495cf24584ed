/-
  Several texts in one (written by pack2.py): FndF, TxtB.
-/
import Derived.Test.YtlgkiookobedcaaPk23
import Derived.Test.YtlgkiookobedcaaPk4
import Derived.Test.YtlgkiookobedcaaProg
import Derived.Test.YtlgkiookobedcaaPk3
namespace Go.Proofs.Ytlgkiookobedcaa
open Go.RowKit Go.Maps
set_option linter.unusedVariables false
theorem RdT.lit (w : World) (t : Tok) : RdT (w.alloc (.cells #[.int .u8 t.lit, .int .i64 t.len, .int .i64 t.dist] 68)) (w.heap.size + 1) (some ⟨w.heap.size, 0, none⟩) 1 [t] := by
  have h := tf_new w t.lit t.len t.dist 68
  refine ⟨rfl, fun _ => ⟨_, rfl, by simp, fun i hi => ?_⟩⟩
  obtain rfl : i = 0 := by omega
  exact ⟨by rw [addr0]; exact h.cell (i := 0) (by omega), by rw [addr0]; exact h.cell (i := 1) (by omega), by rw [addr0]; exact h.cell (i := 2) (by omega)⟩
def TokensPost (w : World) (b0 g : Nat) (e : Eff) (st : FSt) (left : Nat) (A : Option Addr) (n c gm : Nat) (Ap : Option Addr) (np cp : Nat) (r : Ending) (w' : World) : Prop :=
  ∃ (l : List Tok) (st' : FSt) (At : Option Addr) (nt ct : Nat), r = .returned (.slice At nt ct) ∧ Run e left st l st' ∧ st'.D.length - st'.at_ ≤ left ∧ OwnT w' w.heap.size At nt ct l ∧ (∃ nm Dm, FndC w' b0 g e st' st'.at_ A n c gm nm Dm Ap np cp) ∧ Chg w w' (FF A gm Ap g)
def TokensRel (w : World) (b0 g : Nat) (e : Eff) (st : FSt) (left : Nat) (A : Option Addr) (n c gm : Nat) (Ap : Option Addr) (np cp : Nat) (gk : Nat) (o : Value) (wr : World) : Prop :=
  ∃ (l : List Tok) (st' : FSt) (At : Option Addr) (nt ct nm : Nat) (Dm : DataW Unit), o = .slice At nt ct ∧ Run e left st l st' ∧ OwnT wr w.heap.size At nt ct l ∧ FndC wr b0 g e st' st'.at_ A n c gm nm Dm Ap np cp ∧ Chg w wr (FF A gm Ap g) ∧ Hid (gk + st'.at_ = st'.D.length)
section
variable {w w' w1 w2 : World} {b0 g b n c gm nm np cp : Nat} {e : Eff} {st : FSt} {A Ap : Option Addr} {Dm : DataW Unit}
set_option maxRecDepth 100000 in
set_option maxHeartbeats 4000000 in
theorem mtokens_any (fin : Bool) (h : FndC w b0 g e st st.at_ A n c gm nm Dm Ap np cp) :
    Calls Try.prog 25 #[.pointer (some ⟨g, 0, none⟩), .bool fin] w (TokensPost w b0 g e st (if fin then 0 else 261) A n c gm Ap np cp) := by
  obtain ⟨left, hleft⟩ : ∃ left, (if fin then 0 else 261) = left := ⟨_, rfl⟩
  have hst : TokensRel w b0 g e st left A n c gm Ap np cp (st.D.length - st.at_) (.slice none 0 0) w := ⟨[], st, none, 0, 0, nm, Dm, rfl, .nil st, ⟨rfl, Own.nil_⟩, h, Chg.refl w _, by show _ = _; have := h.ok.hi; omega⟩
  rw [hleft]
  obtain ⟨i0, hi, hz0, hz1, hz2⟩ := info_parts wtok_info
  have Hi := Lib.hid hi
  have Hz0 := Lib.hid hz0
  have Hz1 := Lib.hid hz1
  have Hz2 := Lib.hid hz2
  have hok := Lib.hid h.ok
  have hbig := Lib.hid h.big
  have hFF : Hid (∀ k, w.heap.size ≤ k → ¬ FF A gm Ap g k) := fun k hk hF => by have := (h.foot_lo hF).2; omega
  have hFF2 : Hid (∀ k, FF A gm Ap g k → k < w.heap.size) := fun k hk => (h.foot_lo hk).2
  have hls : (fin = true ∧ left = 0) ∨ (fin = false ∧ left = 261) := by cases fin <;> simp at hleft <;> simp [hleft]
  clear hi hz0 hz1 hz2 hleft
  go_enter Try.func25, Try.ntmps25
  rcases hls with ⟨rfl, rfl⟩ | ⟨rfl, rfl⟩
  · go_wp2_with fail
    go_loopg [5] (st.D.length - st.at_) (TokensRel w b0 g e st _ A n c gm Ap np cp)
    case atStart => exact hst
    case round =>
      clear hst
      obtain ⟨l, st', At, nt, ct, nm', Dm', rfl, hrun, ho, hf, hc, hgk⟩ := hrel
      have hr := run_ok hrun hok.out
      have hw := waiting_any hf
      obtain ⟨W, hW⟩ : ∃ W, st'.D.length - st'.at_ = W := ⟨_, rfl⟩
      rw [hW] at hw
      have hnt : nt ≤ 100000000000 := by have := ho.1; have := hr.2.2.1; have := hr.1.hi; have := congrArg List.length hr.2.1; have := hbig.out; omega
      have HW := Lib.hid hW
      clear hW hr
      by_cases hlt : (0 : Int) < (W : Int)
      · have hlt2 : Hid (st'.at_ < st'.D.length) := by show _ < _; have := HW.out; omega
        obtain ⟨N1, hN1, -, hN3, -, hD2, hat2, -, -⟩ := next_ok (e := e) hf.ok hlt2.out
        have hmeas : Hid ((nextF e st').2.D.length - (nextF e st').2.at_ < gk ∧ (nextF e st').2.at_ ≤ (nextF e st').2.D.length) := by show _ < _ ∧ _ ≤ _; rw [hD2, hat2]; have := hgk.out; omega
        have hrun2 := Run.snoc hrun (show _ < _ by have := HW.out; omega)
        clear hN1 hN3 hD2 hat2
        go_wp2_with fail
        refine hw.mono ?_
        rintro r w5 ⟨rfl, q5, rfl⟩
        have hf5 := hf.drewN q5
        have hc5 := hc.drewN q5
        have ho5 : OwnT (wr.drewN q5) w.heap.size At nt ct l := ⟨ho.1, ho.2.drewN q5⟩
        go_wp2_with fail
        refine (next_any hf5 hlt2.out).mono ?_
        rintro r w6 ⟨rfl, ⟨nm6, Dm6, hf6⟩, hc6⟩
        have ho6 : OwnT w6 w.heap.size At nt ct l := ⟨ho5.1, hc6.own ho5.2 fun q hq => hFF.out q (ho5.2.lt hq).1⟩
        have hc56 := hc5.trans hc6 fun k hk => .inl hk
        obtain ⟨R, hR⟩ : ∃ R, nextF e st' = R := ⟨_, rfl⟩
        rw [hR] at hf6 hmeas hrun2 ⊢
        obtain ⟨⟨tl, tn, td⟩, st2⟩ := R
        dsimp only at hf6 hmeas hrun2 ⊢
        have hlit := RdT.lit w6 ⟨tl, tn, td⟩
        dsimp only at hlit
        have hfa := hf6.keeps ((Below.refl _ w6).alloc (Nat.le_refl _) (.cells #[.int .u8 tl, .int .i64 tn, .int .i64 td] 68))
        have hca := hc56.trans (Chg.of_below (S := FF A gm Ap g) ((Below.refl _ w6).alloc (Nat.le_refl _) (.cells #[.int .u8 tl, .int .i64 tn, .int .i64 td] 68))) fun k hk => .inl hk
        have hoa : OwnT (w6.alloc (.cells #[.int .u8 tl, .int .i64 tn, .int .i64 td] 68)) w.heap.size At nt ct l := ⟨ho6.1, ho6.2.alloc _⟩
        have hwsz := hca.size
        clear hf5 hc5 ho5 hc6 ho6 hR hf6 hc56
        go_wp2_with (at_builtin; (refine wpList_appT w.heap.size i0 rfl (.tmp 14) (.tmp 17) rfl Hi.out Hz0.out Hz1.out Hz2.out rfl hoa rfl hlit (by omega) hwsz ?_)
                     intro A7 c7 w7 ho7 hg7 hat7)
        have hrow : Chg (w6.alloc (.cells #[.int .u8 tl, .int .i64 tn, .int .i64 td] 68)) w7 (fun k => w.heap.size ≤ k) := (Chg.refl _ _).grown hg7 fun k hk => .inl (hoa.2.lt hk).1
        have hf7 := hfa.chg hrow fun k hk h2 => by have := hFF2.out k hk; omega
        have hc7 := hca.trans hrow fun k hk => .inr hk
        go_roundg (st2.D.length - st2.at_)
        case measure => exact hmeas.out.1
        case rel => exact ⟨_, st2, A7, nt + 1, c7, nm6, Dm6, rfl, hrun2, ho7, hf7, hc7, by show _ = _; have := hmeas.out.2; omega⟩
      · go_wp2_with fail
        refine hw.mono ?_
        rintro r w5 ⟨rfl, q5, rfl⟩
        go_wp2_with fail
        go_returns
        exact ⟨l, st', At, nt, ct, rfl, hrun, by have := HW.out; omega, ⟨ho.1, ho.2.drewN q5⟩, ⟨nm', Dm', hf.drewN q5⟩, hc.drewN q5⟩
  · go_wp2_with fail
    go_loopg [5] (st.D.length - st.at_) (TokensRel w b0 g e st _ A n c gm Ap np cp)
    case atStart => exact hst
    case round =>
      clear hst
      obtain ⟨l, st', At, nt, ct, nm', Dm', rfl, hrun, ho, hf, hc, hgk⟩ := hrel
      have hr := run_ok hrun hok.out
      have hw := waiting_any hf
      obtain ⟨W, hW⟩ : ∃ W, st'.D.length - st'.at_ = W := ⟨_, rfl⟩
      rw [hW] at hw
      have hnt : nt ≤ 100000000000 := by have := ho.1; have := hr.2.2.1; have := hr.1.hi; have := congrArg List.length hr.2.1; have := hbig.out; omega
      have HW := Lib.hid hW
      clear hW hr
      by_cases hlt : (261 : Int) < (W : Int)
      · have hlt2 : Hid (st'.at_ < st'.D.length) := by show _ < _; have := HW.out; omega
        obtain ⟨N1, hN1, -, hN3, -, hD2, hat2, -, -⟩ := next_ok (e := e) hf.ok hlt2.out
        have hmeas : Hid ((nextF e st').2.D.length - (nextF e st').2.at_ < gk ∧ (nextF e st').2.at_ ≤ (nextF e st').2.D.length) := by show _ < _ ∧ _ ≤ _; rw [hD2, hat2]; have := hgk.out; omega
        have hrun2 := Run.snoc hrun (show _ < _ by have := HW.out; omega)
        clear hN1 hN3 hD2 hat2
        go_wp2_with fail
        refine hw.mono ?_
        rintro r w5 ⟨rfl, q5, rfl⟩
        have hf5 := hf.drewN q5
        have hc5 := hc.drewN q5
        have ho5 : OwnT (wr.drewN q5) w.heap.size At nt ct l := ⟨ho.1, ho.2.drewN q5⟩
        go_wp2_with fail
        refine (next_any hf5 hlt2.out).mono ?_
        rintro r w6 ⟨rfl, ⟨nm6, Dm6, hf6⟩, hc6⟩
        have ho6 : OwnT w6 w.heap.size At nt ct l := ⟨ho5.1, hc6.own ho5.2 fun q hq => hFF.out q (ho5.2.lt hq).1⟩
        have hc56 := hc5.trans hc6 fun k hk => .inl hk
        obtain ⟨R, hR⟩ : ∃ R, nextF e st' = R := ⟨_, rfl⟩
        rw [hR] at hf6 hmeas hrun2 ⊢
        obtain ⟨⟨tl, tn, td⟩, st2⟩ := R
        dsimp only at hf6 hmeas hrun2 ⊢
        have hlit := RdT.lit w6 ⟨tl, tn, td⟩
        dsimp only at hlit
        have hfa := hf6.keeps ((Below.refl _ w6).alloc (Nat.le_refl _) (.cells #[.int .u8 tl, .int .i64 tn, .int .i64 td] 68))
        have hca := hc56.trans (Chg.of_below (S := FF A gm Ap g) ((Below.refl _ w6).alloc (Nat.le_refl _) (.cells #[.int .u8 tl, .int .i64 tn, .int .i64 td] 68))) fun k hk => .inl hk
        have hoa : OwnT (w6.alloc (.cells #[.int .u8 tl, .int .i64 tn, .int .i64 td] 68)) w.heap.size At nt ct l := ⟨ho6.1, ho6.2.alloc _⟩
        have hwsz := hca.size
        clear hf5 hc5 ho5 hc6 ho6 hR hf6 hc56
        go_wp2_with (at_builtin; (refine wpList_appT w.heap.size i0 rfl (.tmp 14) (.tmp 17) rfl Hi.out Hz0.out Hz1.out Hz2.out rfl hoa rfl hlit (by omega) hwsz ?_)
                     intro A7 c7 w7 ho7 hg7 hat7)
        have hrow : Chg (w6.alloc (.cells #[.int .u8 tl, .int .i64 tn, .int .i64 td] 68)) w7 (fun k => w.heap.size ≤ k) := (Chg.refl _ _).grown hg7 fun k hk => .inl (hoa.2.lt hk).1
        have hf7 := hfa.chg hrow fun k hk h2 => by have := hFF2.out k hk; omega
        have hc7 := hca.trans hrow fun k hk => .inr hk
        go_roundg (st2.D.length - st2.at_)
        case measure => exact hmeas.out.1
        case rel => exact ⟨_, st2, A7, nt + 1, c7, nm6, Dm6, rfl, hrun2, ho7, hf7, hc7, by show _ = _; have := hmeas.out.2; omega⟩
      · go_wp2_with fail
        refine hw.mono ?_
        rintro r w5 ⟨rfl, q5, rfl⟩
        go_wp2_with fail
        go_returns
        exact ⟨l, st', At, nt, ct, rfl, hrun, by have := HW.out; omega, ⟨ho.1, ho.2.drewN q5⟩, ⟨nm', Dm', hf.drewN q5⟩, hc.drewN q5⟩
end
end Go.Proofs.Ytlgkiookobedcaa
namespace Go.Proofs.Ytlgkiookobedcaa
open Go.RowKit
set_option linter.unusedVariables false
theorem txor_u8 (a b : Int) : 0 ≤ bits .xor .u8 a b ∧ bits .xor .u8 a b < 256 := by
  show 0 ≤ IntKind.u8.wrap _ ∧ IntKind.u8.wrap _ < 256
  rw [IntKind.wrap_u8]
  omega
theorem tbyte_info : (Try.prog.info? 5).map (fun i => (i.zero, i.size, i.bytes)) = some (some (.int .u8 0), 1, 1) := by kernel_rfl
def txF (A : Option Addr) (n c : Nat) (times turn : Int) : Nat → Value
  | 0 => .slice A n c
  | 1 => .int .u16 times
  | _ => .int .u16 turn
def TxRel (w : World) (A : Option Addr) (n c : Nat) (times turn : Int) (m : Nat) (most : Int) (gk : Nat) (v5 v6 v7 : Value) (wr : World) : Prop :=
  ∃ (k n1 c1 : Nat) (A1 : Option Addr) (x : List Int) (X : Int), v5 = .slice A1 n1 c1 ∧ v6 = .int .u32 X ∧ v7 = .int .i64 k ∧ k ≤ m + 1 ∧ 0 ≤ X ∧ X < 4294967296 ∧ OwnI .u8 wr (w.heap.size + 1) 5 A1 n1 c1 x ∧ (n1 : Int) ≤ most + 2000 ∧ Hid (∀ v ∈ x, 0 ≤ v ∧ v < 256) ∧ Ar wr w.heap.size 3 (txF A n c times turn) ∧ Below w.heap.size w wr ∧ Hid (gk = m + 1 - k)
def TxPost (w : World) (most : Int) (r : Ending) (w' : World) : Prop :=
  ∃ (n c : Nat) (A : Option Addr) (x : List Int), r = .returned (.slice A n c) ∧ OwnI .u8 w' w.heap.size 5 A n c x ∧ (n : Int) ≤ most + 2000 ∧ (∀ v ∈ x, 0 ≤ v ∧ v < 256) ∧ Below w.heap.size w w'
set_option maxRecDepth 100000 in
set_option maxHeartbeats 4000000 in
theorem text11_any (w : World) (A : Option Addr) (n c : Nat) (b : List Int) (times turn most : Int) (hr : RdI .u8 w w.heap.size A n b) (hn : n ≤ 2000) (hby : ∀ v ∈ b, 0 ≤ v ∧ v < 256) (ht : 0 ≤ times ∧ times < 65536) (hu : 0 ≤ turn ∧ turn < 65536) (hm : 0 ≤ most ∧ most ≤ 60000) :
    Calls Try.prog 7 #[.agg #[.slice A n c, .int .u16 times, .int .u16 turn], .int .i64 most] w (TxPost w most) := by
  obtain ⟨i0, hi, hz0, hz1, hz2⟩ := info_parts tbyte_info
  have Hi := Lib.hid (⟨hi, hz0, hz1, hz2⟩ : _ ∧ _ ∧ _ ∧ _)
  obtain ⟨m, hm3⟩ : ∃ m, (times % 2000).toNat = m := ⟨_, rfl⟩
  have hm2 : times % 2000 = (m : Int) := by omega
  have hmt : times.tmod 2000 = (m : Int) := by rw [Int.tmod_eq_emod_of_nonneg ht.1, hm2]
  have hmb : (0 : Int) ≤ (m : Int) ∧ (m : Int) ≤ 1999 := by omega
  have HH := Lib.hid (⟨hr, hby, hr.1⟩ : _ ∧ _ ∧ _)
  have har := Ar.new w #[.slice A n c, .int .u16 times, .int .u16 turn] 25 (m := 3) (f := txF A n c times turn) rfl (fun i hi => by
    obtain rfl | rfl | rfl : i = 0 ∨ i = 1 ∨ i = 2 := by omega
    all_goals rfl)
  have hb0 := (Below.refl w.heap.size w).alloc (Nat.le_refl _) (.cells #[.slice A n c, .int .u16 times, .int .u16 turn] 25)
  have HA := Lib.hid (⟨har, hb0⟩ : _ ∧ _)
  have hnI : (0 : Int) ≤ (n : Int) ∧ (n : Int) ≤ 2000 := by omega
  clear hi hz0 hz1 hz2 hm3 hr hby har hb0 hm2
  go_enter Try.func7, Try.ntmps7
  go_wp2_with fail
  go_loopg [5, 6, 7] (m + 1) (TxRel w A n c times turn m most)
  case atStart => exact ⟨0, 0, 0, none, [], turn, rfl, by go_num, rfl, Nat.zero_le _, hu.1, by omega, OwnI.nil_, by omega, (fun v hv => by cases hv), HA.out.1, HA.out.2, rfl⟩
  case round =>
    obtain ⟨k, n1, c1, A1, x, X, rfl, rfl, rfl, hk, hX0, hX1, ho, hn1, hxb, har, hb, hg⟩ := hrel
    have d0 := har.cell (i := 0) (by omega)
    have d1 := har.cell (i := 1) (by omega)
    have d2 := har.cell (i := 2) (by omega)
    replace d0 : wr.cell? ⟨w.heap.size, 0, none⟩ = some (.slice A n c) := d0
    replace d1 : wr.cell? ⟨w.heap.size, 1, none⟩ = some (.int .u16 times) := d1
    replace d2 : wr.cell? ⟨w.heap.size, 2, none⟩ = some (.int .u16 turn) := d2
    by_cases hlt : k ≤ m
    · have hkI : (k : Int) ≤ (m : Int) ∧ (0 : Int) ≤ (k : Int) := by omega
      by_cases hsm : (n1 : Int) < most
      · have hrw := HH.out.1.below hb
        have hkey : (0 < n ∧ 0 < turn) ∨ ¬ (0 < n ∧ 0 < turn) := by omega
        have HBL := Lib.hid HH.out.2.2
        have HXB := Lib.hid hxb.out
        have hn1I : (0 : Int) ≤ (n1 : Int) ∧ (n1 : Int) ≤ 62000 := by omega
        rcases hkey with ⟨hn0, ht0⟩ | hno
        · have hnI2 : (0 : Int) < (n : Int) ∧ ¬ ((n : Int) = 0) := by omega
          have hnz : ((n : Int) == 0) = false := by simp; omega
          obtain ⟨Y, hY⟩ : ∃ Y, (X * 1103515245 + 12345) % 4294967296 = Y := ⟨_, rfl⟩
          have hYb : 0 ≤ Y ∧ Y < 4294967296 := by rw [← hY]; omega
          obtain ⟨q, hq⟩ : ∃ q : Nat, Y / 65536 % (n : Int) = (q : Int) := ⟨(Y / 65536 % n).toNat, by have := Int.emod_nonneg (Y / 65536) (b := (n : Int)) (by omega); omega⟩
          have hqn : q < n := by have h1 := Int.emod_lt_of_pos (Y / 65536) hnI2.1; omega
          obtain ⟨J, hJ⟩ : ∃ J : Nat, (n1 : Int) + (n : Int) - 1 - (q : Int) = (J : Int) := ⟨n1 + n - 1 - q, by omega⟩
          have hJb : (0 : Int) ≤ (J : Int) ∧ (J : Int) < (n1 : Int) + (n : Int) ∧ (J : Int) ≤ 64000 := by omega
          have hJn : J < n1 + n := by omega
          clear hqn
          go_wp2_with (at_builtin; (refine wpList_app .u8 (w.heap.size + 1) 5 i0 1 rfl (.tmp 25) (.tmp 27) _ rfl Try.underlying22 Hi.out.1 Hi.out.2.1 Hi.out.2.2.1 Hi.out.2.2.2 rfl ho rfl hrw (by omega) (by omega) (by have := har.lt; omega) ?_)
                       intro A4 d4 w4 hown4 hg4 hat4
                       have har4 := har.grown hg4 (fun e => by have := ho.2.lt (g := w.heap.size) e.symm; omega)
                       have f0 := har4.cell (i := 0) (by omega)
                       have f2 := har4.cell (i := 2) (by omega)
                       replace f0 : w4.cell? ⟨w.heap.size, 0, none⟩ = some (.slice A n c) := f0
                       replace f2 : w4.cell? ⟨w.heap.size, 2, none⟩ = some (.int .u16 turn) := f2
                       obtain ⟨g4, rfl⟩ := hown4.2.addr (by omega)
                       have cq := hown4.2.cell (i := J) (by omega)
                       have zq := hown4.2.frozen J)
          have hxb2 := txor_u8 (ix (x ++ b) J) (Y / 256 % 256)
          have ho5 := OwnI.set_ hown4 hJn (bits .xor .u8 (ix (x ++ b) J) (Y / 256 % 256))
          have har5 := har4.far (p := ⟨g4, J, none⟩) (by have := (hown4.2.lt (g := g4) rfl).1; show w.heap.size ≠ g4; omega) (.int .u8 (bits .xor .u8 (ix (x ++ b) J) (Y / 256 % 256)))
          have hb5 := (hb.grown hg4 hb.size fun q hq => by have := (ho.2.lt hq).1; omega).setCell (p := ⟨g4, J, none⟩) (by have := (hown4.2.lt (g := g4) rfl).1; show w.heap.size ≤ g4; omega) (.int .u8 (bits .xor .u8 (ix (x ++ b) J) (Y / 256 % 256)))
          go_roundg (m + 1 - (k + 1))
          case measure => have := hg.out; omega
          case rel => exact ⟨k + 1, n1 + n, d4, some ⟨g4, 0, none⟩, (x ++ b).set J (bits .xor .u8 (ix (x ++ b) J) (Y / 256 % 256)), Y, by go_num, by go_num, by go_num, by omega, hYb.1, hYb.2, ho5, by omega, (fun v hv => by
            rcases List.mem_or_eq_of_mem_set hv with h | h
            · rcases List.mem_append.1 h with h | h
              · exact HXB.out v h
              · exact HH.out.2.1 v h
            · rw [h]; exact hxb2), har5, hb5, rfl⟩
        · have hcs : n = 0 ∨ (0 < n ∧ turn = 0) := by omega
          have hap : ∀ A4 d4 w4, OwnI .u8 w4 (w.heap.size + 1) 5 A4 (n1 + n) d4 (x ++ b) → wr.grownBy w4 (blkOf A1) → TxRel w A n c times turn m most (m + 1 - (k + 1)) (.slice A4 (n1 + n) d4) (.int .u32 X) (.int .i64 ((k : Int) + 1)) w4 := fun A4 d4 w4 hown4 hg4 =>
            ⟨k + 1, n1 + n, d4, A4, x ++ b, X, rfl, rfl, by go_num, by omega, hX0, hX1, hown4, by omega, (fun v hv => by
              rcases List.mem_append.1 hv with h | h
              · exact HXB.out v h
              · exact HH.out.2.1 v h), har.grown hg4 (fun e => by have := ho.2.lt (g := w.heap.size) e.symm; omega), hb.grown hg4 hb.size (fun q hq => by have := (ho.2.lt hq).1; omega), rfl⟩
          have HAP := Lib.hid hap
          clear hno hap
          rcases hcs with rfl | ⟨hn0, rfl⟩
          · go_wp2_with (at_builtin; (refine wpList_app .u8 (w.heap.size + 1) 5 i0 1 rfl (.tmp 25) (.tmp 27) _ rfl Try.underlying22 Hi.out.1 Hi.out.2.1 Hi.out.2.2.1 Hi.out.2.2.2 rfl ho rfl hrw (by omega) (by omega) (by have := har.lt; omega) ?_)
                         intro A4 d4 w4 hown4 hg4 hat4
                         have hrel := HAP.out A4 d4 w4 hown4 hg4
                         have har4 := har.grown hg4 (fun e => by have := ho.2.lt (g := w.heap.size) e.symm; omega)
                         have f0 := har4.cell (i := 0) (by omega)
                         replace f0 : w4.cell? ⟨w.heap.size, 0, none⟩ = some (.slice A 0 c) := f0)
            go_roundg (m + 1 - (k + 1))
            case measure => have := hg.out; omega
            case rel => exact hrel
          · have hnI2 : (0 : Int) < (n : Int) := by omega
            go_wp2_with (at_builtin; (refine wpList_app .u8 (w.heap.size + 1) 5 i0 1 rfl (.tmp 25) (.tmp 27) _ rfl Try.underlying22 Hi.out.1 Hi.out.2.1 Hi.out.2.2.1 Hi.out.2.2.2 rfl ho rfl hrw (by omega) (by omega) (by have := har.lt; omega) ?_)
                         intro A4 d4 w4 hown4 hg4 hat4
                         have hrel := HAP.out A4 d4 w4 hown4 hg4
                         have har4 := har.grown hg4 (fun e => by have := ho.2.lt (g := w.heap.size) e.symm; omega)
                         have f0 := har4.cell (i := 0) (by omega)
                         have f2 := har4.cell (i := 2) (by omega)
                         replace f0 : w4.cell? ⟨w.heap.size, 0, none⟩ = some (.slice A n c) := f0
                         replace f2 : w4.cell? ⟨w.heap.size, 2, none⟩ = some (.int .u16 0) := f2)
            go_roundg (m + 1 - (k + 1))
            case measure => have := hg.out; omega
            case rel => exact hrel
      · go_wp2_with fail
        go_ret
        exact ⟨n1, c1, A1, x, rfl, ⟨ho.1, ho.2.more (by omega)⟩, hn1, hxb.out, hb⟩
    · obtain rfl : k = m + 1 := by omega
      have hkI : ¬ ((m + 1 : Nat) : Int) ≤ (m : Int) := by omega
      go_wp2_with fail
      go_ret
      exact ⟨n1, c1, A1, x, rfl, ⟨ho.1, ho.2.more (by omega)⟩, hn1, hxb.out, hb⟩
end Go.Proofs.Ytlgkiookobedcaa
