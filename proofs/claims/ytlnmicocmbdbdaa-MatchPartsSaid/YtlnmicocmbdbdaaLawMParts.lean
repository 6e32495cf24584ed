/-
  The walk of the statement MatchParts.
-/
import Derived.Test.YtlnmicocmbdbdaaProg
import Derived.Test.YtlnmicocmbdbdaaPartS
import Derived.Test.YtlnmicocmbdbdaaOpenP
import Derived.Test.YtlnmicocmbdbdaaRExp
import Derived.Test.YtlnmicocmbdbdaaSame
namespace Go.Proofs.Ytlnmicocmbdbdaa
open Go.RowKit
set_option linter.unusedVariables false

def IncRel (w wB : World) (g : Nat) (e : Eff) (gm : Nat) (X : List Int) (toks : List Tok) (st : FSt) (Aa : Option Addr) (na ca : Nat) (At : Option Addr) (nt ct : Nat) (A : Option Addr) (n c nm : Nat) (Dm : DataW Unit) (Ap : Option Addr) (np cp : Nat) (A5 : Option Addr) (n5 c5 b5 : Nat) (k : Value) (wr : World) : Prop :=
  ∃ (j : Nat) (z : List Int), j ≤ n5 ∧ k = .int .i64 j ∧ OwnI .u8 wr b5 5 A5 n5 c5 z ∧ (∀ v ∈ z, 0 ≤ v ∧ v < 256) ∧ PS wB wB.heap.size g e gm X toks st Aa na ca At nt ct A n c nm Dm Ap np cp wr
def PartsRel (w : World) (g : Nat) (e : Eff) (gm n : Nat) (all l i _p _k _y _e : Value) (wr : World) : Prop :=
  ∃ (k na ca nt ct nA cA nm np cp : Nat) (Aa At A Ap : Option Addr) (Dm : DataW Unit) (X : List Int) (toks : List Tok) (st : FSt), k ≤ n ∧ i = .int .i64 k ∧ all = .slice Aa na ca ∧ l = .slice At nt ct ∧ st.D = X ∧ X.length ≤ 12000 * k ∧ toks.length ≤ st.at_ ∧ PS w w.heap.size g e gm X toks st Aa na ca At nt ct A nA cA nm Dm Ap np cp wr
set_option maxRecDepth 100000 in
set_option maxHeartbeats 8000000 in
theorem matchParts_law (A : Option Addr) (n c : Nat) (ps : List PartV) (A' : Option Addr) (n' c' : Nat) (asks : List Bool) (times level : Int) (w : World) (T : RdP w A n ps ∧ n ≤ maxLen) (T' : RdB w A' n' asks ∧ n' ≤ maxLen) (ht : (Lit.int .u8 times).wf = true) (hl : (Lit.int .i64 level).wf = true) :
    Calls Try.prog 4 #[.slice A n c, .slice A' n' c', .int .u8 times, .int .i64 level] w fun e w' => e = .returned (.bool true) ∧ Below w.heap.size w w' := by
  obtain ⟨R, m0⟩ := T
  obtain ⟨R', m0'⟩ := T'
  have hn : (n : Int) ≤ 9223372036854775807 := by unfold maxLen at m0; omega
  have hn' : (n' : Int) ≤ 9223372036854775807 := by unfold maxLen at m0'; omega
  have htb := bounds_u8 ht
  have hlb := bounds_i64 hl
  clear m0 m0' ht hl
  obtain ⟨i0, hi, hz0, hz1, hz2⟩ := info_parts wtok_info
  have Hi := Lib.hid hi
  have Hz0 := Lib.hid hz0
  have Hz1 := Lib.hid hz1
  have Hz2 := Lib.hid hz2
  clear hi hz0 hz1 hz2
  obtain ⟨i1, hi, hz0, hz1, hz2⟩ := info_parts fbyte2_info
  have Ki := Lib.hid hi
  have Kz0 := Lib.hid hz0
  have Kz1 := Lib.hid hz1
  have Kz2 := Lib.hid hz2
  clear hi hz0 hz1 hz2
  go_enter Try.func4, Try.ntmps4
  go_wp2_with fail
  refine (fnew_any level _ hlb).mono ?_
  rintro r w1 ⟨g, gm, rfl, hf1, hb1⟩
  obtain ⟨E, hE⟩ : ∃ E, effOf level = E := ⟨_, rfl⟩
  rw [hE] at hf1
  clear hE
  go_wp2_with fail
  refine (answers9_any _).mono ?_
  rintro r w2 ⟨rfl, hb2⟩
  have hf2 := hf1.keeps hb2
  have hbw2 := hb1.trans (hb2.mono hb1.size)
  by_cases h30 : 30 < (n : Int)
  · go_wp2_with fail
    refine (answers9_any _).mono ?_
    rintro r w3 ⟨rfl, hb3⟩
    go_wp2
    go_ret
    exact ⟨rfl, hbw2.trans (hb3.mono hbw2.size)⟩
  have hn1 : (n : Int) ≤ 30 ∧ (0 : Int) ≤ n := by omega
  have hst : ∀ a b c d, PartsRel w g E gm n (.slice none 0 0) (.slice none 0 0) (.int .i64 0) a b c d w2 := fun _ _ _ _ =>
    ⟨0, 0, 0, 0, 0, 0, 0, 0, 0, 0, none, none, none, none, _, [], [], newF, Nat.zero_le _, rfl, rfl, rfl, rfl, by simp, Nat.le_refl _, ⟨hf2, OwnI.nil_, ⟨rfl, Own.nil_⟩, by simp [blkOf], by simp [blkOf], by simp [blkOf], rfl, rfl, hbw2⟩⟩
  clear hf1 hf2 hb1 hb2 hbw2
  go_wp2_with fail
  go_loopw [10, 11, 12, 13, 14, 15, 16] (PartsRel w g E gm n) (fun _ _ i _ _ _ _ _ => n - (intOf i).toNat)
  case atStart => exact hst _ _ _ _
  case round =>
    clear hst
    obtain ⟨k, na, ca, nt, ct, nA, cA, nm, np, cp, Aa, At, Ad, Ap, Dm, X, toks, st, hk, rfl, rfl, rfl, hD, hX, hTk, hs⟩ := hrel
    have hna : na ≤ 360000 := by rw [hs.a.1]; omega
    have hnt : nt ≤ 360000 := by rw [hs.t.1]; have := hs.f.ok.hi; rw [hD] at this; omega
    by_cases hlt : k < n
    · have hkI : (k : Int) < (n : Int) ∧ (0 : Int) ≤ k := by omega
      obtain ⟨ad, rfl, hadb, cp0, hin⟩ := R k hlt
      obtain ⟨P, hP⟩ : ∃ P, ps.getD k default = P := ⟨_, rfl⟩
      rw [hP] at cp0 hin
      obtain ⟨A3, m3, d3, b3⟩ := P
      dsimp only at cp0 hin
      obtain ⟨R3, l3, w3, lc3, -⟩ := hin
      have hby3 : ∀ v ∈ b3, 0 ≤ v ∧ v < 256 := fun v hv => bounds_u8 (w3 v hv)
      have hm3 : (m3 : Int) ≤ 9223372036854775807 := by unfold maxLen at l3; omega
      have hcp : Hid (∀ W, Below w.heap.size w W → W.cell? (ad.add k) = some (.slice A3 m3 d3)) := fun W hW => (hW.cell (by rw [addr_block]; exact hadb)).trans cp0
      have cpr := hcp.out wr hs.bel
      clear cp0 hP l3 w3
      by_cases h300 : 300 < (m3 : Int)
      · go_wp2_with fail
        go_ret
        exact ⟨rfl, hs.bel⟩
      have hm3b : (m3 : Int) ≤ 300 ∧ (0 : Int) ≤ m3 := by omega
      go_wp2_with fail
      refine (text_any wr A3 m3 d3 _ b3 times 0 (R3.below hs.bel) hs.b0le (by omega) hby3 htb (by omega)).mono ?_
      rintro r w5 ⟨n5, c5, A5, y, rfl, ho5, hn5, hyb, hyr, hb5⟩
      have hy := hyr (by decide)
      have hyl : y.length ≤ 12000 := by
        rw [← ho5.1, hn5]
        have h5 : ((times % 40).toNat + 1) * b3.length ≤ 40 * 300 := Nat.mul_le_mul (by omega) (by have := R3.1; omega)
        omega
      have hs5 := hs.keeps hb5
      have hFlt : ∀ q, FF Ad gm Ap g q → q < wr.heap.size := fun q hq => (hs.f.foot_lo hq).2
      have hDl : st.D.length = X.length := by rw [hD]
      have hn5b : n5 ≤ 12000 := by rw [ho5.1]; exact hyl
      have ho5k := Lib.hid ho5.1
      have hb05 := hs.b0le
      have haLt : ∀ q, blkOf Aa = some q → q < wr.heap.size := fun q hq => (hs.a.2.lt hq).2
      have htLt : ∀ q, blkOf At = some q → q < wr.heap.size := fun q hq => (hs.t.2.lt hq).2
      clear hyr hn5 hs
      go_wp2_with fail
      refine (fwrite_any hs5.f ho5.rd (Nat.le_refl _) hyb (by omega)).mono ?_
      rintro r w6 ⟨rfl, A6, n6, c6, Ap6, np6, cp6, nm6, Dm6, hf6, hc6, hF6⟩
      have hs6 := hs5.wrote hf6 hc6 hF6
      have ho6 := hc6.ownI ho5 fun q hq h => by have := hFlt q h; have := (ho5.2.lt hq).1; omega
      have h5F : ∀ q, blkOf A5 = some q → ¬ FF A6 gm Ap6 g q := fun q hq h => by
        have l5 := ho5.2.lt hq
        rcases hF6 q h with h2 | h2
        · have := hFlt q h2; omega
        · omega
      have hst6 : IncRel wr w g E gm X toks (writeF st y) Aa na ca At nt ct A6 n6 c6 nm6 Dm6 Ap6 np6 cp6 A5 n5 c5 wr.heap.size (.int .i64 0) w6 := ⟨0, y, Nat.zero_le _, rfl, ho6, hyb, hs6⟩
      clear hs5 hf6 hc6 hF6 ho5 ho6 hs6 hFlt
      go_wp2_with fail
      go_loopw [14] (IncRel wr w g E gm X toks (writeF st y) Aa na ca At nt ct A6 n6 c6 nm6 Dm6 Ap6 np6 cp6 A5 n5 c5 wr.heap.size) (fun j _ => n5 - (intOf j).toNat)
      case atStart => exact hst6
      case round =>
        clear hst6
        obtain ⟨j, z, hj, rfl, hoz, hzb, hs7⟩ := hrel
        by_cases hlj : j < n5
        · have hjI : (j : Int) < (n5 : Int) ∧ (0 : Int) ≤ j := by omega
          obtain ⟨g5, rfl⟩ := hoz.2.addr (by omega)
          have cz := hoz.2.cell (i := j) (by omega)
          have zz := hoz.2.frozen j
          have hzj := hzb (ix z j) (by
            have : j < z.length := by rw [← hoz.1]; exact hlj
            simp [ix, this])
          obtain ⟨v, hv⟩ : ∃ v, ix z j = v := ⟨_, rfl⟩
          rw [hv] at cz hzj
          have hg5 := (hoz.2.lt (g := g5) rfl).1
          have hs8 := hs7.other (k := g5) ((Chg.refl _ (fun q => q = g5)).setCell (p := ⟨g5, j, none⟩) (.inl rfl) (.int .u8 ((v + 1) % 256))) (h5F g5 rfl) (fun h => by have := haLt g5 h; omega) (fun h => by have := htLt g5 h; omega) (by omega)
          have hoz2 := OwnI.set_ hoz hlj ((v + 1) % 256)
          clear hv
          go_wp2_with fail
          go_roundw
          case rel => exact ⟨j + 1, z.set j ((v + 1) % 256), hlj, by go_num, hoz2, (fun u hu => by
            rcases List.mem_or_eq_of_mem_set hu with h | h
            · exact hzb u h
            · rw [h]; omega), hs8⟩
          case measure => simp [intOf]; omega
        · obtain rfl : j = n5 := by omega
          have cpr7 := hcp.out _ hs7.bel
          clear hoz
          go_wp2_with fail
          refine (text_any _ A3 m3 d3 _ b3 times 0 (R3.below hs7.bel) hs7.b0le (by omega) hby3 htb (by omega)).mono ?_
          rintro r w8 ⟨n8, c8, A8, y8, rfl, ho8, hn8, -, hyr8, hb8⟩
          obtain rfl : y8 = y := by rw [hyr8 (by decide), hy]
          have hs8 := hs7.keeps hb8
          have hn8b : n8 ≤ 12000 := by rw [ho8.1]; exact hyl
          have hb08 := hs8.b0le
          have ha8 := hs8.a
          clear hyr8 hn8 hs7 hy
          go_upto_region 18 with (at_builtin; (refine wpList_app .u8 w.heap.size 5 i1 1 rfl (.tmp 70) (.tmp 76) _ rfl Try.underlying22 Ki.out Kz0.out Kz1.out Kz2.out rfl ha8 rfl ho8.rd (by omega) (by omega) hb08 ?_); intro A9 c9 w9 ho9 hg9 hat9)
          have hs9 := hs8.appA ho9 hg9 hat9
          have hDX : (writeF st y8).D = X ++ y8 := by show st.D ++ y8 = _; rw [hD]
          have hatW : (writeF st y8).at_ = st.at_ := rfl
          have hXl9 : (X ++ y8).length ≤ 12000 * (k + 1) := by rw [List.length_append]; omega
          have hbigD : (writeF st y8).D.length ≤ 16777216 := by rw [hDX]; omega
          obtain ⟨na9, hna9⟩ : ∃ na9, na + n8 = na9 := ⟨_, rfl⟩
          rw [hna9] at hs9 ⊢
          have hna9b : na9 ≤ 372000 := by omega
          clear hs8 ha8 ho8 ho9 hg9 hat9 hna9
          obtain ⟨X9, hX9⟩ : ∃ X9, X ++ y8 = X9 := ⟨_, rfl⟩
          rw [hX9] at hs9 hDX hXl9
          obtain ⟨st9, hst9⟩ : ∃ st9, writeF st y8 = st9 := ⟨_, rfl⟩
          rw [hst9] at hs9 hDX hatW hbigD
          rw [← hatW] at hTk
          clear hX9 hst9 hatW
          by_cases hask : k < n'
          · have hkI' : (k : Int) < (n' : Int) := by omega
            obtain ⟨adb, rfl, hadbb, cb⟩ := R' k hask
            obtain ⟨fb, hfb⟩ : ∃ fb, asks.getD k default = fb := ⟨_, rfl⟩
            rw [hfb] at cb
            have hcb : Hid (∀ W, Below w.heap.size w W → W.cell? (adb.add k) = some (.bool fb)) := fun W hW => (hW.cell (by rw [addr_block]; exact hadbb)).trans cb
            have cb9 := hcb.out _ hs9.bel
            clear cb hfb
            cases fb with
            | true =>
              have h9f := hs9.f
              have h9t := hs9.t
              have h9d2 := hs9.d2
              have hnt9 : nt ≤ 360000 := hnt
              go_wp2_with fail
              refine (mtokens_any true h9f).mono ?_
              rintro r w10 ⟨l10, s10, A10, n10, c10, rfl, hrun10, hleft10, ho10, ⟨nm10, Dm10, hf10⟩, hc10⟩
              obtain ⟨hok10, hD10, hat10, -⟩ := run_ok hrun10 h9f.ok
              have ho910 : OwnT w10 w.heap.size At nt ct toks := ⟨h9t.1, hc10.own h9t.2 h9d2⟩
              have hb010 : w.heap.size ≤ w10.heap.size := Nat.le_trans hs9.b0le hc10.size
              have hn10b : nt + n10 ≤ 372000 := by
                have e1 := ho10.1
                have e2 := h9t.1
                have e3 := hok10.hi
                rw [hD10, hDX] at e3
                omega
              have hcb10 := hcb.out w10 (hs9.bel.trans (hc10.below (fun q hq => (h9f.foot_lo hq).1) hs9.b0le))
              go_upto_region 20 with (at_builtin; (refine wpList_appT w.heap.size i0 rfl (.tmp 82) (.tmp 88) rfl Hi.out Hz0.out Hz1.out Hz2.out rfl ho910 rfl ho10.rd (by omega) hb010 ?_); intro A11 c11 w11 ho11 hg11 hat11)
              have hs11 := hs9.told hbigD hrun10 hf10 hc10 ho11 hg11 hat11
              have hcb11 := hcb.out w11 hs11.bel
              have hDX2 : s10.D = X9 := by rw [hD10, hDX]
              have hTk10 : (toks ++ l10).length ≤ s10.at_ := by rw [List.length_append]; omega
              obtain ⟨nt11, hnt11⟩ : ∃ nt11, nt + n10 = nt11 := ⟨_, rfl⟩
              rw [hnt11] at hs11 hn10b ⊢
              have hw11 := waiting_any hs11.f
              obtain ⟨W11, hW11⟩ : ∃ W11, s10.D.length - s10.at_ = W11 := ⟨_, rfl⟩
              rw [hW11] at hw11 hleft10
              have hW0 : W11 = 0 := by simpa using hleft10
              have HW0 : Hid (s10.D.length - s10.at_ = 0) := by show _ = _; rw [hW11, hW0]
              subst hW0
              clear hleft10
              have hsW : ∀ q, PS w w.heap.size g E gm X9 (toks ++ l10) s10 A9 na9 c9 A11 nt11 c11 A6 n6 c6 nm10 Dm10 Ap6 np6 cp6 (w11.drewN q) := fun q => hs11.keeps (below_drewN (Below.refl _ w11) q)
              have HsW := Lib.hid hsW
              obtain ⟨tk10, htk10⟩ : ∃ tk10, toks ++ l10 = tk10 := ⟨_, rfl⟩
              rw [htk10] at HsW hTk10
              have hXl10 := Lib.hid hXl9
              clear hX hD h9f h9t h9d2 hf10 hc10 ho10 ho910 ho11 hg11 hat11 hrun10 hok10 hD10 hat10 hs9 hs11 hnt11 hcb10 hsW htk10 hTk hDX hW11 hXl9
              go_wp2_with fail
              refine hw11.mono ?_
              rintro r w12 ⟨rfl, q12, rfl⟩
              go_wp2_with fail
              have hw12 := waiting_any (HsW.out q12).f
              rw [HW0.out] at hw12
              refine hw12.mono ?_
              rintro r w13 ⟨rfl, q13, rfl⟩
              go_upto_region 22 with fail
              have hs12 := HsW.out (q12 + q13)
              have hsX := hs12
              have hexn := hsX.t.rd
              have hatD := hsX.f.ok.hi
              go_wp2_with fail
              refine (rexpand_any _ _ _ _ tk10 hexn (by omega)).mono ?_
              rintro r w20 ⟨A20, n20, c20, rfl, ho20, hb20⟩
              rw [hsX.ex] at ho20 ⊢
              dsimp only at ho20 ⊢
              have hs20 := hsX.keeps hb20
              have hn20 : n20 = s10.at_ := by rw [ho20.1, List.length_take]; omega
              have hna20 : na9 = s10.D.length := by rw [hsX.a.1, hDX2]
              have hwt := waiting_any hs20.f
              obtain ⟨W, hW⟩ : ∃ W, s10.D.length - s10.at_ = W := ⟨_, rfl⟩
              rw [hW] at hwt
              have hsumI : (n20 : Int) + (W : Int) = (na9 : Int) := by omega
              have hnI : (0 : Int) ≤ n20 ∧ (0 : Int) ≤ W ∧ (na9 : Int) ≤ 400000 := by omega
              have hsl := run_slice_to (P := Try.prog) 22 5 Try.underlying22 Ki.out Kz1.out A9 na9 c9 (j := n20) (by have := hsX.a.2.capLe; omega)
              have hlst : s10.D.take s10.at_ = X9.take n20 := by rw [hn20, hDX2]
              have hn20b : n20 ≤ 400000 := by omega
              have hrR := (hs20.a.rd).pre (j := n20) (by omega)
              have HW := Lib.hid hW
              have hXl : X9.length ≤ 12000 * (k + 1) := hXl10.out
              have hTk2 : tk10.length ≤ s10.at_ := hTk10
              clear hn20 hna20 hW hexn hatD
              go_wp2_with fail
              refine hwt.mono ?_
              rintro r w21 ⟨rfl, q21, rfl⟩
              have ho21 := ho20.drewN q21
              go_wp2_with fail
              refine (same_any _ _ _ _ _ _ _ _ _ _ ho21.rd (hrR.drewN q21) (by omega) hlst).mono ?_
              rintro r w22 ⟨rfl, q22, rfl⟩
              have hs22 := hs20.keeps (below_drewN (Below.refl _ w20) (q21 + q22))
              go_wp2_with fail
              go_roundw
              case rel => exact ⟨k + 1, _, _, _, _, _, _, _, _, _, _, _, _, _, _, X9, tk10, s10, hlt, by go_num, rfl, rfl, hDX2, hXl, hTk2, hs22⟩
              case measure => simp [intOf]; omega
            | false =>
              have h9f := hs9.f
              have h9t := hs9.t
              have h9d2 := hs9.d2
              have hnt9 : nt ≤ 360000 := hnt
              go_wp2_with fail
              refine (mtokens_any false h9f).mono ?_
              rintro r w10 ⟨l10, s10, A10, n10, c10, rfl, hrun10, hleft10, ho10, ⟨nm10, Dm10, hf10⟩, hc10⟩
              obtain ⟨hok10, hD10, hat10, -⟩ := run_ok hrun10 h9f.ok
              have ho910 : OwnT w10 w.heap.size At nt ct toks := ⟨h9t.1, hc10.own h9t.2 h9d2⟩
              have hb010 : w.heap.size ≤ w10.heap.size := Nat.le_trans hs9.b0le hc10.size
              have hn10b : nt + n10 ≤ 372000 := by
                have e1 := ho10.1
                have e2 := h9t.1
                have e3 := hok10.hi
                rw [hD10, hDX] at e3
                omega
              have hcb10 := hcb.out w10 (hs9.bel.trans (hc10.below (fun q hq => (h9f.foot_lo hq).1) hs9.b0le))
              go_upto_region 20 with (at_builtin; (refine wpList_appT w.heap.size i0 rfl (.tmp 82) (.tmp 88) rfl Hi.out Hz0.out Hz1.out Hz2.out rfl ho910 rfl ho10.rd (by omega) hb010 ?_); intro A11 c11 w11 ho11 hg11 hat11)
              have hs11 := hs9.told hbigD hrun10 hf10 hc10 ho11 hg11 hat11
              have hcb11 := hcb.out w11 hs11.bel
              have hDX2 : s10.D = X9 := by rw [hD10, hDX]
              have hTk10 : (toks ++ l10).length ≤ s10.at_ := by rw [List.length_append]; omega
              obtain ⟨nt11, hnt11⟩ : ∃ nt11, nt + n10 = nt11 := ⟨_, rfl⟩
              rw [hnt11] at hs11 hn10b ⊢
              have hw11 := waiting_any hs11.f
              obtain ⟨W11, hW11⟩ : ∃ W11, s10.D.length - s10.at_ = W11 := ⟨_, rfl⟩
              rw [hW11] at hw11 hleft10
              have hWI : (W11 : Int) ≤ 261 := by simp at hleft10; omega
              clear hleft10
              have hsW : ∀ q, PS w w.heap.size g E gm X9 (toks ++ l10) s10 A9 na9 c9 A11 nt11 c11 A6 n6 c6 nm10 Dm10 Ap6 np6 cp6 (w11.drewN q) := fun q => hs11.keeps (below_drewN (Below.refl _ w11) q)
              have HsW := Lib.hid hsW
              obtain ⟨tk10, htk10⟩ : ∃ tk10, toks ++ l10 = tk10 := ⟨_, rfl⟩
              rw [htk10] at HsW hTk10
              have hXl10 := Lib.hid hXl9
              clear hX hD h9f h9t h9d2 hf10 hc10 ho10 ho910 ho11 hg11 hat11 hrun10 hok10 hD10 hat10 hs9 hs11 hnt11 hcb10 hsW htk10 hTk hDX hW11 hXl9
              go_wp2_with fail
              refine hw11.mono ?_
              rintro r w12 ⟨rfl, q12, rfl⟩
              go_upto_region 22 with fail
              have hs12 := HsW.out q12
              have hsX := hs12
              have hexn := hsX.t.rd
              have hatD := hsX.f.ok.hi
              go_wp2_with fail
              refine (rexpand_any _ _ _ _ tk10 hexn (by omega)).mono ?_
              rintro r w20 ⟨A20, n20, c20, rfl, ho20, hb20⟩
              rw [hsX.ex] at ho20 ⊢
              dsimp only at ho20 ⊢
              have hs20 := hsX.keeps hb20
              have hn20 : n20 = s10.at_ := by rw [ho20.1, List.length_take]; omega
              have hna20 : na9 = s10.D.length := by rw [hsX.a.1, hDX2]
              have hwt := waiting_any hs20.f
              obtain ⟨W, hW⟩ : ∃ W, s10.D.length - s10.at_ = W := ⟨_, rfl⟩
              rw [hW] at hwt
              have hsumI : (n20 : Int) + (W : Int) = (na9 : Int) := by omega
              have hnI : (0 : Int) ≤ n20 ∧ (0 : Int) ≤ W ∧ (na9 : Int) ≤ 400000 := by omega
              have hsl := run_slice_to (P := Try.prog) 22 5 Try.underlying22 Ki.out Kz1.out A9 na9 c9 (j := n20) (by have := hsX.a.2.capLe; omega)
              have hlst : s10.D.take s10.at_ = X9.take n20 := by rw [hn20, hDX2]
              have hn20b : n20 ≤ 400000 := by omega
              have hrR := (hs20.a.rd).pre (j := n20) (by omega)
              have HW := Lib.hid hW
              have hXl : X9.length ≤ 12000 * (k + 1) := hXl10.out
              have hTk2 : tk10.length ≤ s10.at_ := hTk10
              clear hn20 hna20 hW hexn hatD
              go_wp2_with fail
              refine hwt.mono ?_
              rintro r w21 ⟨rfl, q21, rfl⟩
              have ho21 := ho20.drewN q21
              go_wp2_with fail
              refine (same_any _ _ _ _ _ _ _ _ _ _ ho21.rd (hrR.drewN q21) (by omega) hlst).mono ?_
              rintro r w22 ⟨rfl, q22, rfl⟩
              have hs22 := hs20.keeps (below_drewN (Below.refl _ w20) (q21 + q22))
              go_wp2_with fail
              go_roundw
              case rel => exact ⟨k + 1, _, _, _, _, _, _, _, _, _, _, _, _, _, _, X9, tk10, s10, hlt, by go_num, rfl, rfl, hDX2, hXl, hTk2, hs22⟩
              case measure => simp [intOf]; omega
          · have hkI' : ¬ (k : Int) < (n' : Int) := by omega
            clear hX hD
            go_upto_region 22 with fail
            have hsX := hs9
            have hexn := hsX.t.rd
            have hatD := hsX.f.ok.hi
            go_wp2_with fail
            refine (rexpand_any _ _ _ _ toks hexn (by omega)).mono ?_
            rintro r w20 ⟨A20, n20, c20, rfl, ho20, hb20⟩
            rw [hsX.ex] at ho20 ⊢
            dsimp only at ho20 ⊢
            have hs20 := hsX.keeps hb20
            have hn20 : n20 = st9.at_ := by rw [ho20.1, List.length_take]; omega
            have hna20 : na9 = st9.D.length := by rw [hsX.a.1, hDX]
            have hwt := waiting_any hs20.f
            obtain ⟨W, hW⟩ : ∃ W, st9.D.length - st9.at_ = W := ⟨_, rfl⟩
            rw [hW] at hwt
            have hsumI : (n20 : Int) + (W : Int) = (na9 : Int) := by omega
            have hnI : (0 : Int) ≤ n20 ∧ (0 : Int) ≤ W ∧ (na9 : Int) ≤ 400000 := by omega
            have hsl := run_slice_to (P := Try.prog) 22 5 Try.underlying22 Ki.out Kz1.out A9 na9 c9 (j := n20) (by have := hsX.a.2.capLe; omega)
            have hlst : st9.D.take st9.at_ = X9.take n20 := by rw [hn20, hDX]
            have hn20b : n20 ≤ 400000 := by omega
            have hrR := (hs20.a.rd).pre (j := n20) (by omega)
            have HW := Lib.hid hW
            have hXl : X9.length ≤ 12000 * (k + 1) := hXl9
            have hTk2 : toks.length ≤ st9.at_ := hTk
            clear hn20 hna20 hW hexn hatD
            go_wp2_with fail
            refine hwt.mono ?_
            rintro r w21 ⟨rfl, q21, rfl⟩
            have ho21 := ho20.drewN q21
            go_wp2_with fail
            refine (same_any _ _ _ _ _ _ _ _ _ _ ho21.rd (hrR.drewN q21) (by omega) hlst).mono ?_
            rintro r w22 ⟨rfl, q22, rfl⟩
            have hs22 := hs20.keeps (below_drewN (Below.refl _ w20) (q21 + q22))
            go_wp2_with fail
            go_roundw
            case rel => exact ⟨k + 1, _, _, _, _, _, _, _, _, _, _, _, _, _, _, X9, toks, st9, hlt, by go_num, rfl, rfl, hDX, hXl, hTk2, hs22⟩
            case measure => simp [intOf]; omega
    · have hkI : ¬ (k : Int) < (n : Int) := by omega
      have h9f := hs.f
      have h9t := hs.t
      have hbigD : st.D.length ≤ 16777216 := by rw [hD]; omega
      go_wp2_with fail
      refine (mtokens_any true h9f).mono ?_
      rintro r w10 ⟨l10, s10, A10, n10, c10, rfl, hrun10, hleft10, ho10, ⟨nm10, Dm10, hf10⟩, hc10⟩
      obtain ⟨hok10, hD10, hat10, -⟩ := run_ok hrun10 h9f.ok
      have ho910 : OwnT w10 w.heap.size At nt ct toks := ⟨h9t.1, hc10.own h9t.2 hs.d2⟩
      have hb010 : w.heap.size ≤ w10.heap.size := Nat.le_trans hs.b0le hc10.size
      have hn10b : nt + n10 ≤ 372000 := by
        have e1 := ho10.1
        have e2 := h9t.1
        have e3 := hok10.hi
        rw [hD10, hD] at e3
        omega
      go_upto_region 26 with (at_builtin; (refine wpList_appT w.heap.size i0 rfl (.tmp 130) (.tmp 132) rfl Hi.out Hz0.out Hz1.out Hz2.out rfl ho910 rfl ho10.rd (by omega) hb010 ?_); intro A11 c11 w11 ho11 hg11 hat11)
      have hs11 := hs.told hbigD hrun10 hf10 hc10 ho11 hg11 hat11
      have hDX2 : s10.D = X := by rw [hD10, hD]
      have hend : s10.at_ = s10.D.length := by have := hs11.f.ok.hi; simp at hleft10; omega
      obtain ⟨nt11, hnt11⟩ : ∃ nt11, nt + n10 = nt11 := ⟨_, rfl⟩
      rw [hnt11] at hs11 hn10b ⊢
      obtain ⟨tk10, htk10⟩ : ∃ tk10, toks ++ l10 = tk10 := ⟨_, rfl⟩
      rw [htk10] at hs11
      have hXl : X.length ≤ 360000 := by omega
      clear hX hD h9f h9t hf10 hc10 ho10 ho910 ho11 hg11 hat11 hrun10 hok10 hD10 hat10 hs hnt11 htk10 hTk hleft10 hnt hbigD
      have hex := hs11.ex
      rw [hend, List.take_length, hDX2] at hex
      go_wp2_with fail
      refine (rexpand_any _ _ _ _ tk10 hs11.t.rd (by omega)).mono ?_
      rintro r w20 ⟨A20, n20, c20, rfl, ho20, hb20⟩
      rw [hex] at ho20 ⊢
      dsimp only at ho20 ⊢
      have hs20 := hs11.keeps hb20
      have hwt := fun q => waiting_any (hs20.f.drewN q)
      have hn20b : n20 ≤ 360000 := by rw [ho20.1]; exact hXl
      have hW0 : s10.D.length - s10.at_ = 0 := by omega
      rw [hW0] at hwt
      clear hex hend hW0
      go_wp2_with fail
      refine (same_any _ _ _ _ _ _ _ _ _ _ ho20.rd hs20.a.rd (by omega) rfl).mono ?_
      rintro r w22 ⟨rfl, q22, rfl⟩
      go_wp2_with fail
      refine (hwt _).mono ?_
      rintro r w23 ⟨rfl, q23, rfl⟩
      go_wp2_with fail
      go_ret
      exact ⟨rfl, below_drewN hs20.bel (q22 + q23)⟩
end Go.Proofs.Ytlnmicocmbdbdaa
