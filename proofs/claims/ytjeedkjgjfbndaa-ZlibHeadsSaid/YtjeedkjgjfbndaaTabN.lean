/-
  The walk of table.Next.
-/
import Derived.Test.YtjeedkjgjfbndaaProg
import Derived.Test.YtjeedkjgjfbndaaTab
import Derived.Test.YtjeedkjgjfbndaaRdrB
import Derived.Deep.DeepCutAuto
import Derived.BigFrame
namespace Go.Proofs.Ytjeedkjgjfbndaa
open Go.RowKit
set_option linter.unusedVariables false

theorem next_nil (w : World) (v : Value) : Calls Try.prog 42 #[.pointer none, v] w fun e w' => e = .returned (.tuple #[.int .i64 0, .int .i64 3]) ∧ w = w' := by
  go_enter Try.func42, Try.ntmps42
  go_wp2
  go_ret2
  exact ⟨rfl, rfl⟩

theorem or_i64_nat (a b : Nat) (ha : a < 4611686018427387904) (hb : b < 4611686018427387904) : bits .or .i64 (a : Int) (b : Int) = ((a ||| b : Nat) : Int) := by
  have hx : a ||| b < 2 ^ 62 := Nat.or_lt_two_pow (by omega) (by omega)
  have h1 : (BitVec.ofInt 64 (a : Int)).toNat = a := by
    rw [BitVec.ofInt_natCast, BitVec.toNat_ofNat]; exact Nat.mod_eq_of_lt (by omega)
  have h2 : (BitVec.ofInt 64 (b : Int)).toNat = b := by
    rw [BitVec.ofInt_natCast, BitVec.toNat_ofNat]; exact Nat.mod_eq_of_lt (by omega)
  show IntKind.i64.wrap ((BitVec.ofInt 64 (a : Int) ||| BitVec.ofInt 64 (b : Int)).toNat : Int) = _
  rw [BitVec.toNat_or, h1, h2, IntKind.wrap_i64]
  omega
theorem or_low64 {h b : Int} (h0 : 0 ≤ h) (h1 : h < 4294967296) (hb : b = 0 ∨ b = 1) : bits .or .i64 (2 * h) b = 2 * h + b := by
  obtain ⟨X, rfl⟩ := Int.eq_ofNat_of_zero_le h0
  obtain ⟨Y, rfl⟩ := Int.eq_ofNat_of_zero_le (show 0 ≤ b by omega)
  have e : (2 * (X : Int)) = ((X * 2 ^ 1 : Nat) : Int) := by simp; omega
  rw [e, or_i64_nat _ _ (by omega) (by omega), Nat.or_comm, Nat.mul_comm, Nat.or_comm, ← Nat.two_pow_add_eq_or_of_lt (by omega)]
  simp
theorem and_one32 {x : Int} (h0 : 0 ≤ x) (h1 : x < 4294967296) : bits .and .u32 x 1 = x % 2 := by
  obtain ⟨X, rfl⟩ := Int.eq_ofNat_of_zero_le h0
  have := u32_and_nat X 1 (by omega) (by omega)
  rw [Nat.and_one_is_mod] at this
  have e : ((1 : Nat) : Int) = 1 := rfl
  rw [e] at this
  rw [this]; omega
theorem RdI.aside {k : IntKind} {w w' : World} {B n t0 g : Nat} {A : Option Addr} {l : List Int} (h : RdI k w B A n l) (hc : Chg w w' (fun k => k = g)) (hB : B ≤ w.heap.size) (hlo : ∀ q, blkOf A = some q → t0 ≤ q) (hsep : ∀ k, t0 ≤ k → k < B → k ≠ g) : RdI k w' B A n l :=
  ⟨h.1, fun hm => by
    obtain ⟨ad, e, hb, hcc⟩ := h.2 hm
    exact ⟨ad, e, hb, fun i hi => (hc.cell (by rw [addr_block]; omega) (by rw [addr_block]; exact hsep _ (hlo _ (by rw [e]; rfl)) hb)).trans (hcc i hi)⟩⟩
def NextPost (w : World) (b0 g n c a : Nat) (A : Option Addr) (Bs l : List Int) (e : Ending) (w' : World) : Prop :=
  e = .returned (.tuple #[.int .i64 (nextOf l (rb Bs a)).1, .int .i64 (nextOf l (rb Bs a)).2.2]) ∧ Rdr w' b0 g A n c Bs (a + (nextOf l (rb Bs a)).2.1) ∧ Chg w w' (fun k => k = g)
def NextRel (w : World) (l x : List Int) (H : Nat) (v f t a n : Value) (wr : World) : Prop :=
  ∃ (k q : Nat), 1 ≤ k ∧ k ≤ H + 1 ∧ n = .int .i64 k ∧ v = .int .i64 (2 * hv x (k - 1)) ∧ f = .int .i64 (nxt l k : Nat) ∧ t = .int .i64 (below l (k - 1) : Nat) ∧ a = .int .u32 (numI ((x.take H).drop (k - 1))) ∧ fh l x (k - 1) = 0 ∧ wr = w.drewN q
theorem cf16 (l : List Int) {n : Nat} (h1 : 1 ≤ n) (h2 : n ≤ 15) : cf l 16 0 n = cnt l l.length n := by unfold cf; rw [if_neg (by omega), if_pos (by omega)]

set_option maxRecDepth 100000 in
set_option maxHeartbeats 4000000 in
theorem next_any (w : World) (t0 B gt b0 g n c a : Nat) (A : Option Addr) (l Bs : List Int) (ht : Tab w t0 B gt l) (hl : l.length ≤ 288) (hw : Rdr w b0 g A n c Bs a) (hlen : Bs.length ≤ 1000000000000) (hBw : B ≤ w.heap.size) (hsep : ∀ k, t0 ≤ k → k < B → k ≠ g) :
    Calls Try.prog 42 #[.pointer (some ⟨gt, 0, none⟩), .pointer (some ⟨g, 0, none⟩)] w (NextPost w b0 g n c a A Bs l) := by
  obtain ⟨Al, Ac, As, cl, cc, cs, har, hral, hrac, hras, hgt0, hgtB, -, -, hAs0⟩ := ht
  have hgtg := hsep gt hgt0 hgtB
  obtain ⟨x, hx⟩ : ∃ x, rb Bs a = x := ⟨_, rfl⟩
  have hxb : Bit x := by rw [← hx]; exact Bit.rb Bs a
  obtain ⟨lg, hlg⟩ : ∃ lg, lgT l 15 = lg := ⟨_, rfl⟩
  have hlg15 : lg ≤ 15 := by rw [← hlg]; exact lgT_le l 15
  have hxl : 8 * n - a = x.length := by rw [← hx, rb_length, hw.n_eq]
  have k19 := har.cell (i := 19) (by omega)
  have k18 := har.cell (i := 18) (by omega)
  have e19 : tbF Al l.length cl Ac l.length cc (cf l 16 0) As (srt l 15).length cs (lgT l 15 : Nat) 19 = .int .i64 lg := by rw [hlg]; rfl
  have e18 : tbF Al l.length cl Ac l.length cc (cf l 16 0) As (srt l 15).length cs (lgT l 15 : Nat) 18 = .slice As (srt l 15).length cs := rfl
  rw [e19] at k19
  rw [e18] at k18
  obtain ⟨H, hH⟩ : ∃ H, min x.length lg = H := ⟨_, rfl⟩
  have hH15 : H ≤ 15 := by omega
  have hHx : H ≤ (rb Bs a).length := by rw [hx]; omega
  have hno : nextOf l (rb Bs a) = if fh l x H ≠ 0 then (selS l (fh l x H) (hv x (fh l x H) - nxt l (fh l x H)).toNat, fh l x H, 0) else if H < lg then (0, 0, 5) else if lg = 0 ∧ x.length = 0 then (0, 0, 5) else (0, 0, 3) := by
    rw [hx]; unfold nextOf; rw [hlg, hH]
  have HNO := Lib.hid hno
  have HX := Lib.hid hx
  have HXL := Lib.hid hxl
  have hxI : (0 : Int) ≤ (x.length : Int) ∧ (x.length : Int) ≤ 8000000000000 := by have := hw.n_eq; omega
  have hHc : ((x.length : Int) < (lg : Int) ∧ x.length = H) ∨ ((lg : Int) < (x.length : Int) ∧ lg = H) ∨ (x.length = lg ∧ lg = H) := by omega
  have HLG := Lib.hid hlg
  have HHH := Lib.hid hH
  have har2 := Lib.hid har
  clear hno hx hxl hlg hH e19 e18
  have hleft : Hid (∀ q, Calls Try.prog 24 #[.pointer (some ⟨g, 0, none⟩)] (w.drewN q) fun e w' => e = .returned (.int .i64 x.length) ∧ ∃ m, w' = (w.drewN q).drewN m) := fun q => by
    have := rdrLeft_any _ _ _ _ _ _ _ _ (hw.drewN q) hlen
    rwa [HXL.out] at this
  go_enter Try.func42, Try.ntmps42
  go_wp2
  go_cut [9] (fun s9 wx => s9 = .int .i64 H ∧ ∃ q, wx = w.drewN q)
  case first =>
    rcases hHc with ⟨h1, h2⟩ | ⟨h1, h2⟩ | ⟨h1, h2⟩
    · have HEQ := Lib.hid h2
      clear h2
      go_quiet ((go_at_call 24; exact Calls.quiet_of (hleft.out _)))
      all_goals
        go_wp2_with fail
        go_meet
        exact ⟨by rw [HEQ.out], _, rfl⟩
    · have HEQ := Lib.hid h2
      clear h2
      go_quiet ((go_at_call 24; exact Calls.quiet_of (hleft.out _)))
      all_goals
        go_wp2_with fail
        go_meet
        exact ⟨by rw [HEQ.out], _, rfl⟩
    · have HEQ := Lib.hid h2
      have h1I : (x.length : Int) = (lg : Int) := by omega
      clear h2 h1
      go_quiet ((go_at_call 24; exact Calls.quiet_of (hleft.out _)))
      all_goals
        go_wp2_with fail
        go_meet
        exact ⟨by first | rw [HEQ.out] | (rw [h1I, HEQ.out]), _, rfl⟩
  case rest =>
    obtain ⟨rfl, q0, rfl⟩ := hcut
    have hwq := hw.drewN q0
    go_wp2_with fail
    refine (peek_ok _ _ _ _ _ _ _ _ hwq hlen H (by omega) hHx).mono ?_
    rintro e w1 ⟨rfl, q1, rfl⟩
    rw [HX.out]
    go_wp2_with fail
    go_loopw [6, 7, 8, 10, 12] (NextRel w l x H) (fun _ _ _ _ n _ => H + 1 - (intOf n).toNat)
    case atStart => exact ⟨1, q0 + q1, Nat.le_refl _, by omega, rfl, rfl, rfl, rfl, rfl, rfl, rfl⟩
    case round =>
      obtain ⟨k, q, hk1, hkH, rfl, rfl, rfl, rfl, rfl, hfh, rfl⟩ := hrel
      by_cases hlt : k ≤ H
      · obtain ⟨p, rfl⟩ : ∃ p, k = p + 1 := ⟨k - 1, by omega⟩
        rw [Nat.add_sub_cancel] at hfh ⊢
        obtain ⟨kk, hkk⟩ : ∃ kk : Nat, p + 1 = kk := ⟨_, rfl⟩
        have hb1 := hv_bd hxb p
        have hb2 := hv_bd hxb (p + 1)
        have hge := hv_ge hxb (fh_all hfh)
        have hp15 : (2 : Int) ^ (p + 1) ≤ 32768 := by have := pow_mono2 (show p + 1 ≤ 15 by omega); simpa using this
        have hnx := nxt_bd l hl (v := p + 1) (by omega)
        have hbt : ix x p = 0 ∨ ix x p = 1 := by
          unfold ix; rw [List.getD_eq_getElem?_getD]
          cases e : x[p]? with
          | none => simp
          | some v => simpa using hxb v (List.mem_of_getElem? e)
        have hvs : hv x (p + 1) = 2 * hv x p + ix x p := rfl
        have hdr : (x.take H).drop p = ix x p :: (x.take H).drop (p + 1) := by
          rw [List.drop_eq_getElem_cons (by simp; omega)]
          congr 1
          simp [ix, show p < x.length by omega]
        have hal : numI ((x.take H).drop p) = ix x p + 2 * numI ((x.take H).drop (p + 1)) := by rw [hdr]; rfl
        have hnb := numI_bd ((hxb.take_ H).drop_ p)
        have hnl := pow_mono2 (show ((x.take H).drop p).length ≤ 15 by simp; omega)
        have hcb := cnt_le l l.length (p + 1)
        have hf2 := fh_zero_succ hfh
        obtain ⟨h, hh⟩ : ∃ h, hv x p = h := ⟨_, rfl⟩
        obtain ⟨b, hb⟩ : ∃ b, ix x p = b := ⟨_, rfl⟩
        obtain ⟨V, hV⟩ : ∃ V, hv x (p + 1) = V := ⟨_, rfl⟩
        obtain ⟨N1, hN1⟩ : ∃ N1, numI ((x.take H).drop p) = N1 := ⟨_, rfl⟩
        obtain ⟨N2, hN2⟩ : ∃ N2, numI ((x.take H).drop (p + 1)) = N2 := ⟨_, rfl⟩
        rw [hh, hN1]
        rw [hN1, hb, hN2] at hal
        rw [hN1] at hnb
        rw [hh] at hb1 hvs
        rw [hV] at hb2 hge hvs
        rw [hb] at hbt hvs
        have h15 : (2 : Int) ^ 15 = 32768 := rfl
        have hN1b : 0 ≤ N1 ∧ N1 < 4294967296 := by omega
        have e1 : bits .and .u32 N1 1 = b := by rw [and_one32 hN1b.1 hN1b.2]; omega
        have e3 : N1 / 2 = N2 := by omega
        have e2 : bits .or .i64 (2 * h) b = V := by rw [or_low64 hb1.1 (by have := pow_mono2 (show p ≤ 15 by omega); omega) hbt]; exact hvs.symm
        have kc := har.cell (i := 2 + (p + 1)) (by omega)
        have hcell : tbF Al l.length cl Ac l.length cc (cf l 16 0) As (srt l 15).length cs (lgT l 15 : Nat) (2 + (p + 1)) = .int .i64 (cnt l l.length (p + 1) : Nat) := by
          unfold tbF
          rw [if_neg (by omega), if_neg (by omega), if_neg (by omega), if_neg (by omega), Nat.add_sub_cancel_left, cf16 l (by omega) (by omega)]
        rw [hcell] at kc
        have hbl : below l p ≤ 15 * 288 := Nat.le_trans (below_le l p) (Nat.mul_le_mul (by omega) hl)
        obtain ⟨nx, hnxe⟩ : ∃ nx, nxt l (p + 1) = nx := ⟨_, rfl⟩
        obtain ⟨ct, hct⟩ : ∃ ct, cnt l l.length (p + 1) = ct := ⟨_, rfl⟩
        obtain ⟨bl, hble⟩ : ∃ bl, below l p = bl := ⟨_, rfl⟩
        rw [hnxe, hble]
        rw [hct] at kc hcb
        rw [hnxe] at hnx hge
        rw [hble] at hbl
        have hit : hitB l x (p + 1) = decide (V < (nx : Int) + (ct : Int)) := by unfold hitB; rw [hV, hnxe, hct]
        rw [hit] at hf2
        rw [hkk] at kc ⊢
        have hnum : 0 ≤ h ∧ h ≤ 32768 ∧ 0 ≤ V ∧ V ≤ 32768 ∧ (nx : Int) ≤ V ∧ (0 : Int) ≤ ct ∧ (ct : Int) ≤ 288 ∧ (0 : Int) ≤ bl ∧ (bl : Int) ≤ 4320 ∧ (1 : Int) ≤ kk ∧ (kk : Int) ≤ 15 ∧ (kk : Int) ≤ (H : Int) ∧ (0 : Int) ≤ nx := by
          have := pow_mono2 (show p ≤ 15 by omega)
          omega
        have hbI : 0 ≤ b ∧ b ≤ 1 := by omega
        by_cases hhit : V - (nx : Int) < (ct : Int)
        · have hf3 : fh l x (p + 1) = p + 1 := by rw [hf2, if_pos (by simp; omega)]
          have hfH : fh l x H = p + 1 := by rw [fh_keep (m := p + 1) (by rw [hf3]; omega) (by omega), hf3]
          obtain ⟨J, hJ⟩ := Int.eq_ofNat_of_zero_le (show 0 ≤ V - (nx : Int) by omega)
          have hJc : J < ct := by omega
          have hsel := srt_at l (n := p) (m := 15) (j := J) (by omega) (by rw [hct]; exact hJc)
          rw [hble] at hsel
          have hJs : bl + J < (srt l 15).length := by
            rw [srt_length]
            have := below_mono l (show p + 1 ≤ 15 by omega)
            rw [below, hble, hct] at this
            omega
          have hn3 : nextOf l (rb Bs a) = (selS l (p + 1) J, p + 1, 0) := by
            rw [HNO.out, hfH, if_pos (by omega), hV, hnxe]
            have : (V - (nx : Int)).toNat = J := by omega
            rw [this]
          have hidx : (bl : Int) + V - (nx : Int) = ((bl + J : Nat) : Int) := by omega
          have hkkx : kk ≤ (rb Bs a).length := by rw [← hkk]; omega
          obtain ⟨Sx, hSx⟩ : ∃ Sx, selS l (p + 1) J = Sx := ⟨_, rfl⟩
          rw [hSx] at hsel hn3
          obtain ⟨SL, hSL⟩ : ∃ SL : Nat, (srt l 15).length = SL := ⟨_, rfl⟩
          obtain ⟨M, hM⟩ : ∃ M : Nat, bl + J = M := ⟨_, rfl⟩
          rw [hM] at hidx hsel
          rw [hM, hSL] at hJs
          have hMI : (0 : Int) ≤ M ∧ (M : Int) < (SL : Int) := by omega
          have HN3 := Lib.hid hn3
          have HKK := Lib.hid hkk
          have HSL := Lib.hid hSL
          have HSEL := Lib.hid hsel
          rw [hSL] at k18
          have hwq3 := hw.drewN q
          clear hnxe hct hble hit hf2 hf3 hfH hV hN1 hN2 hh hb hvs hal hnl hnb hdr hbt hbl hnx hcb hb1 hb2 hge hp15 hfh hcell h15 hkk hn3 hSL hsel hJ hJc hM hSx
          go_wp2_with fail
          refine (get_ok _ _ _ _ _ _ _ _ hwq3 hlen kk (by omega) hkkx).mono ?_
          rintro e w5 ⟨rfl, hr5, hg5⟩
          have hgw : Chg w w5 (fun k => k = g) := ((Chg.refl w _).drewN q).trans hg5 fun k hk => .inl hk
          have har5 := hgw.ar har hgtg
          have k185 := har5.cell (i := 18) (by omega)
          have e185 : tbF Al l.length cl Ac l.length cc (cf l 16 0) As (srt l 15).length cs (lgT l 15 : Nat) 18 = .slice As SL cs := by rw [← HSL.out]; rfl
          rw [e185] at k185
          have hras5 := hras.aside hgw hBw hAs0 hsep
          obtain ⟨ad, rfl, hbl5, c5⟩ := hras5.at_ (i := M) (by have := HSL.out; omega)
          rw [HSEL.out] at c5
          clear e185
          go_wp2
          go_ret2
          unfold NextPost
          rw [HN3.out, HKK.out]
          exact ⟨rfl, hr5, hgw⟩
        · have hf3 : fh l x (p + 1) = 0 := by rw [hf2, if_neg (by simp; omega)]
          have hf4 : Hid (fh l x (p + 1) = 0) := hf3
          have hb5 : Hid (below l (p + 1) = bl + ct) := by show _ = _; rw [below, hble, hct]
          have hn5 : Hid (nxt l (p + 1 + 1) = 2 * (nx + ct)) := by show _ = _; show 2 * (nxt l (p + 1) + cnt l l.length (p + 1)) = _; rw [hnxe, hct]
          have HV := Lib.hid hV
          have HN2 := Lib.hid hN2
          have HKK := Lib.hid hkk
          clear hnxe hct hble hit hf2 hf3 hV hN1 hN2 hh hb hvs hal hnl hnb hdr hbt hbl hnx hcb hb1 hb2 hge hp15 hfh hcell h15 hkk
          go_wp2_with fail
          go_roundw
          case rel => exact ⟨kk + 1, q, by omega, by omega, by go_num, by rw [Nat.add_sub_cancel, ← HKK.out, HV.out]; go_num, by rw [← HKK.out, hn5.out]; go_num, by rw [Nat.add_sub_cancel, ← HKK.out, hb5.out]; go_num, by rw [Nat.add_sub_cancel, ← HKK.out, HN2.out], by rw [Nat.add_sub_cancel, ← HKK.out]; exact hf4.out, rfl⟩
          case measure => simp [intOf]; omega
      · obtain rfl : k = H + 1 := by omega
        rw [Nat.add_sub_cancel] at hfh ⊢
        obtain ⟨V, hV⟩ : ∃ V, hv x H = V := ⟨_, rfl⟩
        rw [hV]
        have hkI : ((H + 1 : Nat) : Int) = (H : Int) + 1 := by omega
        have hno := HNO.out
        rw [hfh, if_neg (by omega)] at hno
        have hHlg : H ≤ lg := by have := HHH.out; omega
        have hchg : Chg w (w.drewN q) (fun k => k = g) := (Chg.refl w _).drewN q
        clear hV
        by_cases hlt2 : H < lg
        · rw [if_pos hlt2] at hno
          have hI : (H : Int) < (lg : Int) := by omega
          have HN := Lib.hid hno
          clear hno hfh
          go_wp2
          go_ret2
          unfold NextPost
          rw [HN.out]
          exact ⟨rfl, hw.drewN q, hchg⟩
        · rw [if_neg hlt2] at hno
          have hI : ¬ (H : Int) < (lg : Int) := by omega
          by_cases hlg0 : lg = 0
          · by_cases hx0 : x.length = 0
            · rw [if_pos ⟨hlg0, hx0⟩] at hno
              have HN := Lib.hid hno
              have hlg00 : (lg : Int) = 0 := by omega
              have HX0 := Lib.hid hx0
              have hl0 := hleft.out q
              rw [hx0] at hl0
              clear hno hfh hlg0 hx0
              go_wp2_with fail
              refine hl0.mono ?_
              rintro e w5 ⟨rfl, q5, rfl⟩
              go_wp2
              go_ret2
              unfold NextPost
              rw [HN.out]
              exact ⟨rfl, hw.drewN (q + q5), (Chg.refl w _).drewN (q + q5)⟩
            · rw [if_neg (fun h => hx0 h.2)] at hno
              have HN := Lib.hid hno
              have hlg00 : (lg : Int) = 0 := by omega
              have hxn : ((x.length : Int) == 0) = false := by simpa using hx0
              have hl0 := hleft.out q
              clear hno hfh hlg0 hx0
              go_wp2_with fail
              refine hl0.mono ?_
              rintro e w5 ⟨rfl, q5, rfl⟩
              go_wp2
              go_ret2
              unfold NextPost
              rw [HN.out]
              exact ⟨rfl, hw.drewN (q + q5), (Chg.refl w _).drewN (q + q5)⟩
          · rw [if_neg (fun h => hlg0 h.1)] at hno
            have HN := Lib.hid hno
            have hlg00 : ((lg : Int) == 0) = false := by simpa using hlg0
            clear hno hfh hlg0
            go_wp2
            go_ret2
            unfold NextPost
            rw [HN.out]
            exact ⟨rfl, hw.drewN q, hchg⟩
end Go.Proofs.Ytjeedkjgjfbndaa
