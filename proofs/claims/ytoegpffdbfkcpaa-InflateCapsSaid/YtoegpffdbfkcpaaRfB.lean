/-
  The walk of the reference's stored.
-/
import Derived.Test.YtoegpffdbfkcpaaRfA
import Derived.Test.YtoegpffdbfkcpaaInfU
import Derived.Deep.DeepCutAuto
namespace Go.Proofs.Ytoegpffdbfkcpaa
open Go.RowKit
set_option linter.unusedVariables false
/-- the reference's stream is at a state of the machine -/
structure RLive (R : RM) (s : IS) : Prop where
  x : R.X.drop R.at_ = s.x
  le : R.at_ ≤ R.X.length
  out : R.out = s.all
  kinds : R.kinds = s.kinds
  stops : R.stops = s.stops
  toks : R.toks = s.toks
  most : R.most = ((s.all.length + s.rem : Nat) : Int)
  E : R.E = 0
  bit : Bit R.X
  len : R.X.length ≤ 100000000000
  even : R.X.length % 8 = 0
  small : s.all.length + s.rem ≤ 1000000000
  tk : R.toks.length ≤ R.at_
/-- what a block leaves as it was -/
structure Keep (R R' : RM) : Prop where
  X : R'.X = R.X
  kinds : R'.kinds = R.kinds
  stops : R'.stops = R.stops
  le : R.at_ ≤ R'.at_
/-- it has ended -/
structure REnd (R : RM) (t : IS) (v : Int) : Prop where
  out : R.out = t.all
  kinds : R.kinds = t.kinds
  stops : R.stops = t.stops
  toks : R.toks = t.toks
  E : R.E = v
def BlkPost (w0 : World) (c0 : Nat → Nat) (b0 g : Nat) (R : RM) (s : IS) (e : Ending) (w' : World) : Prop :=
  (∃ R' t x', e = .returned (.bool true) ∧ RefS w0 c0 w' b0 g R' ∧ IS.Steps s t ∧ t.step = (({ t with x := x' } : IS).over, 0) ∧ RLive R' { t with x := x' } ∧ Keep R R') ∨
  (∃ R' t v, e = .returned (.bool false) ∧ RefS w0 c0 w' b0 g R' ∧ s.fin = (t, v) ∧ v ≠ 8 ∧ REnd R' t v)
section
variable {w w' w0 : World} {b0 g : Nat} {c c0 : Nat → Nat} {R R' : RM} {s t t' : IS} {v : Int}
theorem BlkPost.bad (hs : IS.Steps s t) (h : t.step = (t', v)) (h0 : v ≠ 0) (h8 : v ≠ 8) (hR : RefS w0 c0 w' b0 g R') (hE : REnd R' t' v) : BlkPost w0 c0 b0 g R s (.returned (.bool false)) w' :=
  .inr ⟨R', t', v, rfl, hR, by rw [← hs.fin_eq, IS.fin_stop (by rw [h]; exact h0), h], h8, hE⟩
theorem BlkPost.ok {x' : List Int} (hs : IS.Steps s t) (h : t.step = (({ t with x := x' } : IS).over, 0)) (hR : RefS w0 c0 w' b0 g R') (hL : RLive R' { t with x := x' }) (hX : Keep R R') : BlkPost w0 c0 b0 g R s (.returned (.bool true)) w' :=
  .inl ⟨R', t, x', rfl, hR, hs, h, hL, hX⟩
theorem num_split (x : List Int) (h : Bit x) (a b : Nat) : num x (a + b) = num x a + 2 ^ a * num (x.drop a) b ∨ x.length < a + b := by
  by_cases hl : x.length < a + b
  · exact .inr hl
  · refine .inl ?_
    have e : x.take (a + b) = x.take a ++ (x.drop a).take b := by rw [List.take_add]
    have h1 := num_int h (a + b)
    have h2 := num_int h a
    have h3 := num_int (h.drop_ a) b
    rw [e, numI_append, ← h2, ← h3, List.length_take, Nat.min_eq_left (by omega)] at h1
    have h4 : ((2 ^ a : Nat) : Int) = 2 ^ a := by simp
    have : ((num x (a + b) : Nat) : Int) = ((num x a + 2 ^ a * num (x.drop a) b : Nat) : Int) := by rw [h1]; simp
    omega
def AlR (w0 : World) (c0 : Nat → Nat) (b0 g : Nat) (R : RM) (k : Nat) (wr : World) : Prop :=
  ∃ a, R.at_ ≤ a ∧ Hid (a ≤ (R.at_ + 7) / 8 * 8) ∧ RefS w0 c0 wr b0 g { R with at_ := a } ∧ Hid (k = (R.at_ + 7) / 8 * 8 - a)
def StR (w0 : World) (c0 : Nat → Nat) (b0 g : Nat) (R : RM) (s : IS) (n : Nat) (k : Nat) (i : Value) (wr : World) : Prop :=
  ∃ j R' t, j ≤ n ∧ i = .int .i64 j ∧ Hid (k = n - j) ∧ RefS w0 c0 wr b0 g R' ∧ IS.Steps s t ∧ RLive R' t ∧ t.Ok ∧ t.st = 2 ∧ Hid (t.left = n - j) ∧ Keep R R'
set_option maxRecDepth 100000 in
set_option maxHeartbeats 4000000 in
theorem rstored_any (h : RefS w0 c0 w b0 g R) (hO : s.Ok) (hst : s.st = 1) (hx : algn (R.X.drop R.at_) = s.x) (hL : RLive R { s with x := R.X.drop R.at_ }) :
    Calls Try.prog 21 #[.pointer (some ⟨g, 0, none⟩)] w (BlkPost w0 c0 b0 g R s) := by
  have hlen := hL.len
  have hev := hL.even
  have hle := hL.le
  obtain ⟨A, hA⟩ : ∃ A, (R.at_ + 7) / 8 * 8 = A := ⟨_, rfl⟩
  have hAle : A ≤ R.X.length := by omega
  have hxA : Hid (R.X.drop A = s.x) := by
    show _ = _
    rw [← hx]
    unfold algn
    rw [List.drop_drop, List.length_drop]
    congr 1
    omega
  have HA := Lib.hid hA
  have hal8 : Hid (∀ a, R.at_ ≤ a → a ≤ A → a % 8 = 0 → a = A) := fun a h1 h2 h3 => by omega
  have hal0 : Hid (∀ a, R.at_ ≤ a → a ≤ A → a % 8 ≠ 0 → a + 1 ≤ A) := fun a h1 h2 h3 => by omega
  have HST := Lib.hid hst
  have HEV := Lib.hid hev
  have hinit : Hid (AlR w0 c0 b0 g R (A - R.at_) w) := ⟨R.at_, Nat.le_refl _, by show _ ≤ _; omega, h, by show _ = _; omega⟩
  have hAI : (A : Int) ≤ 100000000000 := by omega
  clear hA hev hst hx h
  go_enter Try.func21, Try.ntmps21
  go_wp2_with fail
  go_loopg [] (A - R.at_) (AlR w0 c0 b0 g R)
  case atStart => exact hinit.out
  case round =>
    clear hinit
    obtain ⟨a, ha1, ha2, h, hk⟩ := hrel
    obtain ⟨-, k1, -, -, -, k5, k6, -⟩ := h.cells
    have z6 := h.cell.frozen' (i := 6) (by omega)
    have z1 := h.cell.frozen' (i := 1) (by omega)
    have ha3 := ha2.out
    rw [HA.out] at ha3
    have haI : (0 : Int) ≤ a ∧ (a : Int) ≤ 100000000000 := by omega
    by_cases hm : a % 8 = 0
    · have haA := hal8.out a ha1 ha3 hm
      subst haA
      have hmI : (a : Int) % 8 = 0 := by omega
      have hmI2 : ¬ (0 : Int) < (a : Int) % 8 := by omega
      obtain ⟨e, he⟩ : ∃ e, a + 32 = e := ⟨_, rfl⟩
      have hw : IntKind.i64.wrap ((a : Int) + 32) = (e : Int) := by rw [IntWalk.i64_in _ (by omega)]; omega
      have hnb : R.nb = R.X.length := h.nb
      have hlx : s.x.length = R.X.length - a := by rw [← hxA.out, List.length_drop]
      have hsize : Hid (s.step = s.size) := by show _ = _; unfold IS.step; rw [if_neg (by have := HST.out; omega), if_pos HST.out]
      unfold IS.size at hsize
      have HE := Lib.hid he
      by_cases hlk : (R.nb : Int) < (e : Int)
      · have hs := Lib.hid (hsize.out.trans (if_pos (by omega)))
        have h1 := h.drew.put (i := 1) (by omega) (.int .i64 5) { R with at_ := a, E := 5 } (all13 rfl rfl rfl rfl rfl rfl rfl rfl rfl rfl rfl rfl rfl) rfl
        clear he hnb hlx hsize hk hm ha1 ha2 ha3
        go_wp2_with fail
        go_region
        all_goals
          go_wp2_with fail
          go_ret
          exact BlkPost.bad (.refl s) hs.out (by decide) (by decide) h1 ⟨hL.out, hL.kinds, hL.stops, hL.toks, rfl⟩
      · have hsz := Lib.hid (hsize.out.trans (if_neg (by omega)))
        have hb := hL.bit
        have ht1 := fun W (hW : RefS w0 c0 W b0 g { R with at_ := a }) => rtake_ok hW 16 (by omega) (Nat.le_trans hlen (by omega)) hb (by show a + 16 ≤ R.X.length; omega) _ rfl
        have ht2 := fun W (hW : RefS w0 c0 W b0 g { R with at_ := a + 16 }) => rtake_ok hW 16 (by omega) (Nat.le_trans hlen (by omega)) hb (by show a + 16 + 16 ≤ R.X.length; omega) _ rfl
        have hsp := (num_split (R.X.drop a) (hb.drop_ a) 16 16).resolve_right (by rw [List.length_drop]; omega)
        have hl1 := num_lt (hb.drop_ a) 16
        have hl2 := num_lt ((hb.drop_ a).drop_ 16) 16
        rw [List.drop_drop] at hsp hl2
        obtain ⟨N, hN⟩ : ∃ N, num (R.X.drop a) 16 = N := ⟨_, rfl⟩
        obtain ⟨P, hP⟩ : ∃ P, num (R.X.drop (a + 16)) 16 = P := ⟨_, rfl⟩
        have ht1 : ∀ W, RefS w0 c0 W b0 g { R with at_ := a } → Calls Try.prog 20 #[.pointer (some ⟨g, 0, none⟩), .int .i64 16] W fun e w' => e = .returned (.tuple #[.int .i64 (N : Nat), .bool true]) ∧ RefS w0 c0 w' b0 g { R with at_ := a + 16 } := fun W hW => by rw [← hN]; exact ht1 W hW
        have ht2 : ∀ W, RefS w0 c0 W b0 g { R with at_ := a + 16 } → Calls Try.prog 20 #[.pointer (some ⟨g, 0, none⟩), .int .i64 16] W fun e w' => e = .returned (.tuple #[.int .i64 (P : Nat), .bool true]) ∧ RefS w0 c0 w' b0 g { R with at_ := a + 32 } := fun W hW => by rw [← hP]; exact ht2 W hW
        rw [hN, hP] at hsp
        have hsp : num (R.X.drop a) 32 = N + 2 ^ 16 * P := hsp
        rw [hN] at hl1
        rw [hP] at hl2
        have HT1 := Lib.hid ht1
        have HT2 := Lib.hid ht2
        have hNP : Hid (num s.x 32 % 65536 = N ∧ num s.x 32 / 65536 = P) := by
          rw [← hxA.out]
          have : (2 : Nat) ^ 16 = 65536 := by decide
          rw [this] at hsp hl1 hl2
          refine ⟨?_, ?_⟩ <;> omega
        have hNI : (0 : Int) ≤ N ∧ (N : Int) < 65536 ∧ (0 : Int) ≤ P ∧ (P : Int) < 65536 := by
          have : (2 : Nat) ^ 16 = 65536 := by decide
          omega
        have hxd : Hid (R.X.drop (a + 32) = s.x.drop 32) := by show _ = _; rw [← hxA.out, List.drop_drop]
        rw [hNP.out.1, hNP.out.2] at hsz
        clear ht1 ht2 hsp hl1 hl2 hN hP he hnb hlx hsize hk hm
        by_cases hsum : N + P = 65535
        · have hst1 := Lib.hid (hsz.out.trans (if_pos hsum))
          have hsI : (N : Int) + (P : Int) = 65535 := by omega
          have hsf : (((N : Int) + (P : Int)) != 65535) = false := by simp; omega
          have HA1 := Lib.hid ha1
          have hini : Hid (∀ W, RefS w0 c0 W b0 g { R with at_ := a + 32 } → StR w0 c0 b0 g R s N N (.int .i64 0) W) := fun W hW => by
            have hO1 := hO.step (.inl (by rw [hst1.out]))
            rw [hst1.out] at hO1
            have hS1 := IS.Steps.one (s := s) (by rw [hst1.out])
            rw [hst1.out] at hS1
            exact ⟨0, _, _, Nat.zero_le _, rfl, rfl, hW, hS1, ⟨hxd.out, by show a + 32 ≤ R.X.length; have h8 := HE.out; have h9 : R.nb = R.X.length := h.nb; omega, hL.out, hL.kinds, hL.stops, hL.toks, hL.most, hL.E, hL.bit, hL.len, hL.even, hL.small, Nat.le_trans hL.tk (by show R.at_ ≤ a + 32; have := HA1.out; omega)⟩, hO1, rfl, rfl, ⟨rfl, rfl, rfl, by show R.at_ ≤ a + 32; have := HA1.out; omega⟩⟩
          clear hsum hsz ha1 ha2 ha3 hsI
          go_wp2_with fail
          go_region
          all_goals
            go_wp2_with fail
            refine (HT1.out _ h.drew).mono ?_
            rintro e w5 ⟨rfl, h5⟩
            go_wp2_with fail
            refine (HT2.out _ h5).mono ?_
            rintro e w6 ⟨rfl, h6⟩
            go_wp2_with fail
            clear hsf
            go_loopg [7] N (StR w0 c0 b0 g R s N)
            case atStart => exact hini.out _ h6
            case round =>
              clear hini h5 h6 h
              obtain ⟨j, R1, t, hj, rfl, hk, h, hs1, hL1, hO1, hst2, hlf, hRX⟩ := hrel
              have HS2 := Lib.hid hst2
              have HRX := Lib.hid hRX
              have hstep : Hid (t.step = t.stored) := by show _ = _; unfold IS.step; rw [if_neg (by omega), if_neg (by omega), if_pos hst2]
              unfold IS.stored at hstep
              clear hst2 hRX
              by_cases hjN : (j : Int) < (N : Int)
              · have hl0 : t.left ≠ 0 := by have := hlf.out; omega
                have hst3 := Lib.hid (hstep.out.trans (if_neg hl0))
                have hlen1 := hL1.len
                have hle1 := hL1.le
                have hxl : t.x.length = R1.X.length - R1.at_ := by rw [← hL1.x, List.length_drop]
                by_cases hx8 : t.x.length < 8
                · have hs4 := Lib.hid (hst3.out.trans (if_pos hx8))
                  have ht := Lib.hid (rtake_not h 8 (by omega) (by omega) hle1 (by omega))
                  clear hx8 hxl hlen1 hle1 hl0 hstep hst3
                  go_wp2_with fail
                  refine ht.out.mono ?_
                  rintro e w7 ⟨rfl, h7⟩
                  go_wp2_with fail
                  go_ret
                  exact BlkPost.bad hs1 hs4.out (by decide) (by decide) h7 ⟨hL1.out, hL1.kinds, hL1.stops, hL1.toks, rfl⟩
                · have hs4 := Lib.hid (hst3.out.trans (if_neg hx8))
                  unfold IS.emit at hs4
                  have hvl := num_lt (hL1.bit.drop_ R1.at_) 8
                  rw [hL1.x] at hvl
                  obtain ⟨V, hV⟩ : ∃ V : Int, ((num t.x 8 : Nat) : Int) = V := ⟨_, rfl⟩
                  have ht := Lib.hid (rtake_ok h 8 (by omega) (by omega) hL1.bit (by omega) V (by rw [hL1.x, hV]))
                  rw [hV] at hs4
                  have hVb : 0 ≤ V ∧ V < 256 := by have : (2 : Nat) ^ 8 = 256 := (by decide); omega
                  have hx8d : Hid (R1.X.drop (R1.at_ + 8) = t.x.drop 8) := by show _ = _; rw [← hL1.x, List.drop_drop]
                  have hat8 : Hid (R1.at_ + 8 ≤ R1.X.length) := by show _ ≤ _; omega
                  have hmost := hL1.most
                  have hol : R1.out.length = t.all.length := by rw [hL1.out]
                  have hsm := hL1.small
                  by_cases hr : t.rem = 0
                  · have he : ∀ W, RefS w0 c0 W b0 g { R1 with at_ := R1.at_ + 8 } → Calls Try.prog 34 #[.pointer (some ⟨g, 0, none⟩), .int .u8 V] W fun e w' => e = .returned (.bool false) ∧ RefS w0 c0 w' b0 g { R1 with at_ := R1.at_ + 8, E := 6 } := fun W hW => remit_not hW V (by show R1.most ≤ _; rw [hmost]; show _ ≤ ((R1.out.length : Nat) : Int); omega)
                    have HE2 := Lib.hid he
                    have hs5 : Hid (t.step = ({ t with x := t.x.drop 8, left := t.left - 1, all := t.all ++ [V].take t.rem, rem := t.rem - [V].length }, 6)) := hs4.out.trans (by rw [if_pos (by simp; omega)])
                    have hr0 := Lib.hid hr
                    clear he hr hV hvl hx8 hxl hlen1 hle1 hl0 hmost hol hsm hstep hst3
                    go_wp2_with fail
                    refine ht.out.mono ?_
                    rintro e w7 ⟨rfl, h7⟩
                    go_wp2_with fail
                    refine (HE2.out _ h7).mono ?_
                    rintro e w8 ⟨rfl, h8⟩
                    go_wp2_with fail
                    go_ret
                    exact BlkPost.bad hs1 hs5.out (by decide) (by decide) h8 ⟨by rw [hr0.out]; show R1.out = t.all ++ [V].take 0; rw [hL1.out]; simp, hL1.kinds, hL1.stops, hL1.toks, rfl⟩
                  · have he : ∀ W, RefS w0 c0 W b0 g { R1 with at_ := R1.at_ + 8 } → Calls Try.prog 34 #[.pointer (some ⟨g, 0, none⟩), .int .u8 V] W (EmPost w0 c0 b0 g { R1 with at_ := R1.at_ + 8 } V) := fun W hW => remit_ok hW V (by show ((R1.out.length : Nat) : Int) < R1.most; rw [hmost]; omega) (by show R1.out.length ≤ _; omega)
                    have HE2 := Lib.hid he
                    have hs5 : Hid (t.step = ({ t with x := t.x.drop 8, left := t.left - 1, all := t.all ++ [V].take t.rem, rem := t.rem - [V].length }, 0)) := hs4.out.trans (by rw [if_neg (by simp; omega)])
                    have hrt : Hid ([V].take t.rem = [V]) := List.take_of_length_le (by simp; omega)
                    have hr0 := Lib.hid hr
                    have HSM := Lib.hid hsm
                    have HLF0 := Lib.hid hl0
                    clear he hr hV hvl hx8 hxl hlen1 hle1 hl0 hmost hol hsm hstep hst3
                    go_wp2_with fail
                    refine ht.out.mono ?_
                    rintro e w7 ⟨rfl, h7⟩
                    go_wp2_with fail
                    refine (HE2.out _ h7).mono ?_
                    rintro e w8 ⟨A8, n8, c8, rfl, h8⟩
                    go_wp2_with fail
                    go_roundg (gk - 1)
                    case measure => have := hk.out; omega
                    case rel =>
                      have hO2 := hO1.step (.inl (by rw [hs5.out]))
                      have hS2 := IS.Steps.tail hs1 (by rw [hs5.out])
                      rw [hs5.out] at hO2 hS2
                      refine ⟨j + 1, _, _, by omega, by go_num, by show gk - 1 = _; have := hk.out; omega, h8, hS2, ⟨hx8d.out, hat8.out, ?_, hL1.kinds, hL1.stops, hL1.toks, ?_, hL1.E, hL1.bit, hL1.len, hL1.even, ?_, Nat.le_trans hL1.tk (by show R1.at_ ≤ R1.at_ + 8; omega)⟩, hO2, HS2.out, by show t.left - 1 = _; have := hlf.out; omega, ⟨HRX.out.X, HRX.out.kinds, HRX.out.stops, Nat.le_trans HRX.out.le (by show R1.at_ ≤ R1.at_ + 8; omega)⟩⟩
                      · show R1.out ++ [V] = t.all ++ [V].take t.rem
                        rw [hrt.out, hL1.out]
                      · show R1.most = (((t.all ++ [V].take t.rem).length + (t.rem - [V].length) : Nat) : Int)
                        rw [hL1.most, hrt.out, List.length_append]
                        have := hr0.out
                        simp; omega
                      · show (t.all ++ [V].take t.rem).length + (t.rem - [V].length) ≤ _
                        rw [hrt.out, List.length_append]
                        have := hr0.out; have := HSM.out
                        simp; omega
              · have hl0 : t.left = 0 := by have := hlf.out; omega
                have hst3 := Lib.hid (hstep.out.trans (if_pos hl0))
                clear hl0 hstep
                go_wp2_with fail
                go_ret
                exact BlkPost.ok (x' := t.x) hs1 hst3.out h hL1 HRX.out
        · have hst1 := Lib.hid (hsz.out.trans (if_neg hsum))
          have hsf : (((N : Int) + (P : Int)) == 65535) = false := by simp; omega
          clear hsum hsz ha1 ha2 ha3
          go_wp2_with fail
          go_region
          all_goals
            go_wp2_with fail
            refine (HT1.out _ h.drew).mono ?_
            rintro e w5 ⟨rfl, h5⟩
            go_wp2_with fail
            refine (HT2.out _ h5).mono ?_
            rintro e w6 ⟨rfl, h6⟩
            obtain ⟨-, j1, -⟩ := h6.cells
            have y1 := h6.cell.frozen' (i := 1) (by omega)
            have h7 := h6.put (i := 1) (by omega) (.int .i64 2) { R with at_ := a + 32, E := 2 } (all13 rfl rfl rfl rfl rfl rfl rfl rfl rfl rfl rfl rfl rfl) rfl
            go_wp2_with fail
            go_ret
            exact BlkPost.bad (.refl s) hst1.out (by decide) (by decide) h7 ⟨hL.out, hL.kinds, hL.stops, hL.toks, rfl⟩
    · have hmI : (0 : Int) < (a : Int) % 8 := by omega
      have h2 := h.put (i := 6) (by omega) (.int .i64 ((a : Int) + 1)) { R with at_ := a + 1 } (all13 rfl rfl rfl rfl rfl rfl rfl rfl rfl rfl rfl rfl rfl) rfl
      have hnx := Lib.hid (hal0.out a ha1 ha3 hm)
      clear hm
      go_wp2_with fail
      go_roundg (gk - 1)
      case measure => have := hk.out; have := HA.out; have := hnx.out; omega
      case rel => exact ⟨a + 1, by omega, by show _ ≤ _; rw [HA.out]; exact hnx.out, h2, by show gk - 1 = _; have := hk.out; omega⟩
end
end Go.Proofs.Ytoegpffdbfkcpaa
