/-
  The walk of the statement BitsWhole.
-/
import Derived.Test.YtefignampkdclaaProg
import Derived.Test.YtefignampkdclaaRev
import Derived.Test.YtefignampkdclaaRdrB
import Derived.Test.YtefignampkdclaaRefB
import Derived.BigFrame
namespace Go.Proofs.Ytefignampkdclaa
open Go.RowKit
set_option linter.unusedVariables false

def Dis (A : Option Addr) (g : Nat) (A' : Option Addr) (g' : Nat) : Prop := ∀ k, foot A g k → ¬ foot A' g' k
theorem Dis.symm {A A' : Option Addr} {g g' : Nat} (h : Dis A g A' g') : Dis A' g' A g := fun k h1 h2 => h k h2 h1
theorem Dis.step {A A2 A' : Option Addr} {g g' N : Nat} (h : Dis A g A' g') (hf : ∀ k, blkOf A2 = some k → blkOf A = some k ∨ N ≤ k) (hlt : ∀ k, foot A' g' k → k < N) : Dis A2 g A' g' := fun k hk h2 => by
  rcases hk with rfl | hk
  · exact h _ (.inl rfl) h2
  · rcases hf k hk with h3 | h3
    · exact h k (.inr h3) h2
    · have := hlt k h2; omega
theorem two_bytes {x y : Int} (hx : 0 ≤ x ∧ x < 256) : ofN (x + y * 256) 16 = ofN x 8 ++ ofN y 8 := by
  have h : Bit (ofN x 8 ++ ofN y 8) := (Bit.ofN x 8).app (Bit.ofN y 8)
  have e := ofN_numI h
  rw [numI_append, ofN_length, numI_ofN, numI_ofN, List.length_append, ofN_length, ofN_length] at e
  have h8 : (2 : Int) ^ 8 = 256 := rfl
  rw [h8] at e
  rw [← e, ← ofN_mod (x + y * 256)]
  have h16 : (2 : Int) ^ (8 + 8) = 65536 := rfl
  rw [h16]
  congr 1
  omega
def YLoop (w0 : World) (gx gy : Nat) (Ax : Option Addr) (nx cx : Nat) (Lx L0 b : List Int) (n : Nat) (i : Value) (wr : World) : Prop :=
  ∃ (k m c : Nat) (A : Option Addr), k ≤ n + 1 ∧ i = .int .i64 k ∧ Wtr wr w0.heap.size gy A m c (L0 ++ bts (b.take k)) ∧ Wtr wr w0.heap.size gx Ax nx cx Lx ∧ Dis A gy Ax gx ∧ Below w0.heap.size w0 wr
theorem YLoop.next {w0 wr w5 : World} {gx gy nx cx m c n' c' : Nat} {A A' Ax : Option Addr} {L L' Lx : List Int} (hy : Wtr wr w0.heap.size gy A m c L) (hx : Wtr wr w0.heap.size gx Ax nx cx Lx) (hd : Dis A gy Ax gx) (hb : Below w0.heap.size w0 wr)
    (hy5 : Wtr w5 w0.heap.size gy A' n' c' L') (hg : Chg wr w5 (foot A gy)) (hf : ∀ k, blkOf A' = some k → blkOf A = some k ∨ wr.heap.size ≤ k) :
    Wtr w5 w0.heap.size gy A' n' c' L' ∧ Wtr w5 w0.heap.size gx Ax nx cx Lx ∧ Dis A' gy Ax gx ∧ Below w0.heap.size w0 w5 :=
  ⟨hy5, hx.chg hg fun k hk h => hd k h hk, hd.step hf fun k hk => (hx.foot_lo hk).2, hb.trans (hg.below (fun q hq => (hy.foot_lo hq).1) hb.size)⟩

def SLoop (w0 : World) (gs ns cs k0 n : Nat) (As : Option Addr) (Pt b : List Int) (Ap Aq Az : Option Addr) (np cp nq cq cz : Nat) (i : Value) (wr : World) : Prop :=
  ∃ k : Nat, k ≤ n ∧ i = .int .i64 k ∧ Rdr wr w0.heap.size gs As ns cs Pt (8 * (k0 + k)) ∧ OwnI .u8 wr w0.heap.size 5 Ap np cp Pt ∧ OwnI .u8 wr w0.heap.size 5 Aq nq cq Pt ∧ OwnI .u8 wr w0.heap.size 5 Az n cz b ∧ blkOf Ap ≠ some gs ∧ blkOf Aq ≠ some gs ∧ blkOf Az ≠ some gs ∧ Below w0.heap.size w0 wr
theorem own_new {w : World} {b0 g n c : Nat} {A : Option Addr} {l : List Int} (h : OwnI .u8 w b0 5 A n c l) (hg : w.heap.size ≤ g) : blkOf A ≠ some g := fun e => by have := (h.2.lt e).2; omega

set_option maxRecDepth 100000 in
set_option maxHeartbeats 8000000 in
theorem bitsWhole_law (A : Option Addr) (n c : Nat) (b : List Int) (ahead : Int) (w : World)
    (T : RdI .u8 w w.heap.size A n b ∧ n ≤ maxLen ∧ ∀ x ∈ b, (Lit.int .u8 x).wf = true) (ha : (Lit.int .u8 ahead).wf = true) :
    Calls Try.prog 6 #[.slice A n c, .int .u8 ahead] w fun e w' => e = .returned (.bool true) ∧ Below w.heap.size w w' := by
  obtain ⟨R, m0, f0⟩ := T
  have hab := bounds_u8 ha
  have hn : (n : Int) ≤ 9223372036854775807 := by unfold maxLen at m0; omega
  have hby : ∀ x ∈ b, 0 ≤ x ∧ x < 256 := fun x hx => bounds_u8 (f0 x hx)
  clear m0 ha f0
  by_cases h1000 : 1000 < (n : Int)
  · go_enter Try.func6, Try.ntmps6
    go_wp2_with fail
    refine (answers1_any _).mono ?_
    rintro e w4 ⟨rfl, hb4⟩
    go_wp2
    go_ret
    exact ⟨rfl, hb4⟩
  · have hn1 : (n : Int) ≤ 1000 ∧ (0 : Int) ≤ n := by omega
    clear hn
    obtain ⟨p, rfl⟩ := Int.eq_ofNat_of_zero_le hab.1
    obtain ⟨h8, hh8⟩ : ∃ h8 : Nat, p % 8 = h8 := ⟨_, rfl⟩
    have hh8I : (p : Int) % 8 = (h8 : Int) := by omega
    have hh8b : (h8 : Int) ≤ 32 ∧ h8 < 8 := by omega
    clear hh8
    obtain ⟨L0, hL0⟩ : ∃ L0, evn (ofN 1 h8) = L0 := ⟨_, rfl⟩
    have hL0e : L0.length % 8 = 0 := by rw [← hL0]; exact evn_even _
    have hL0l : L0.length ≤ 8 := by rw [← hL0, evn_length, ofN_length]; omega
    have hL0b : Bit L0 := by rw [← hL0]; exact (Bit.ofN 1 h8).evn
    have HL0 := Lib.hid hL0
    have hbn := R.1
    have hbtl := bts_length b
    have hRb : R = R := rfl
    clear hRb
    have HBN := Lib.hid hbn
    clear hL0 hbn hbtl
    have h1000f : (1000 < (n : Int)) = False := eq_false h1000
    go_enter Try.func6, Try.ntmps6
    go_wp2_with fail
    refine (wtrNew_any _).mono ?_
    rintro e w1 ⟨gx, rfl, hx1, hb1⟩
    go_wp2_with fail
    refine (wtrNew_any _).mono ?_
    rintro e w2 ⟨gy, rfl, hy2, hb2⟩
    have hx2 := hx1.keeps hb2
    have hbw2 := hb1.trans (hb2.mono hb1.size)
    have hgxy : gx < gy := by have := hx1.cell.lt; have := hy2.lo; omega
    have hy2 : Wtr w2 w.heap.size gy none 0 0 [] := ⟨hy2.cell, Nat.le_trans hb1.size hy2.lo, OwnI.nil_, hy2.apart, hy2.bit⟩
    have hd2 : Dis none gx none gy := fun k hk h => by
      rcases hk with rfl | hk
      · rcases h with h | h
        · omega
        · cases h
      · cases hk
    go_wp2_with fail
    refine (put_ok _ _ _ _ _ _ _ hx2 1 h8 (by omega) hh8b.1 (by simp)).mono ?_
    rintro e w3 ⟨A3, n3, c3, rfl, hx3, hg3, hf3⟩
    obtain ⟨hx3, hy3, hd3, hbw3⟩ := YLoop.next hx2 hy2 hd2 hbw2 hx3 hg3 hf3
    go_wp2_with fail
    refine (put_ok _ _ _ _ _ _ _ hy3 1 h8 (by omega) hh8b.1 (by simp)).mono ?_
    rintro e w4 ⟨A4, n4, c4, rfl, hy4, hg4, hf4⟩
    obtain ⟨hy4, hx4, hd4, hbw4⟩ := YLoop.next hy3 hx3 hd3.symm hbw3 hy4 hg4 hf4
    go_wp2_with fail
    refine (wtrAlign_any _ _ _ _ _ _ _ hx4 (by simp [ofN_length]; omega)).mono ?_
    rintro e w5 ⟨A5, n5, c5, rfl, hx5, hg5, hf5⟩
    obtain ⟨hx5, hy5, hd5, hbw5⟩ := YLoop.next hx4 hy4 hd4.symm hbw4 hx5 hg5 hf5
    go_wp2_with fail
    refine (wtrAlign_any _ _ _ _ _ _ _ hy5 (by simp [ofN_length]; omega)).mono ?_
    rintro e w6 ⟨A6, n6, c6, rfl, hy6, hg6, hf6⟩
    obtain ⟨hy6, hx6, hd6, hbw6⟩ := YLoop.next hy5 hx5 hd5.symm hbw5 hy6 hg6 hf6
    rw [List.nil_append, HL0.out] at hx6 hy6
    have hr6 : RdI .u8 w6 w.heap.size A n b := R.below hbw6
    go_wp2_with fail
    refine (wtrWrite_any _ _ _ _ _ _ _ _ _ _ _ _ hx6 hr6 hbw6.size (fun h0 ad e hf => by
      obtain ⟨ad', e', hl, _⟩ := R.2 h0
      rw [e] at e'; injection e' with e'; subst e'
      have := (hx6.foot_lo hf).1; omega) hby (by omega) (by omega)).mono ?_
    rintro e w7 ⟨A7, n7, c7, rfl, hx7, hg7, hf7⟩
    obtain ⟨hx7, hy7, hd7, hbw7⟩ := YLoop.next hx6 hy6 hd6.symm hbw6 hx7 hg7 hf7
    rw [evn_same hL0e] at hx7
    clear hh8I hx1 hb1 hb2 hx2 hbw2 hy2 hd2 hx3 hg3 hf3 hy3 hd3 hbw3 hy4 hg4 hf4 hx4 hd4 hbw4 hx5 hg5 hf5 hy5 hd5 hbw5 hy6 hg6 hf6 hx6 hd6 hbw6 hr6 hg7 hf7
    go_wp2_with fail
    go_loopw [7] (YLoop w gx gy A7 n7 c7 (L0 ++ bts b) L0 b n) (fun i _ => n + 1 - (intOf i).toNat)
    case atStart => exact ⟨0, n6, c6, A6, Nat.zero_le _, rfl, by rw [List.take_zero]; simpa [bts] using hy7, hx7, hd7.symm, hbw7⟩
    case round =>
      clear hx7 hy7 hd7 hbw7
      obtain ⟨k, m, c2, A8, hk, rfl, hy, hx, hd, hb⟩ := hrel
      have hylen : (L0 ++ bts (b.take k)).length ≤ 4000000000000 := by rw [List.length_append, bts_length, List.length_take]; have := HBN.out; omega
      by_cases hlt : k < n
      · obtain ⟨ad, rfl, hbl, e1⟩ := R.at_ hlt
        have d1 := (hb.cell (p := ad.add k) (by rw [addr_block]; exact hbl)).trans e1
        obtain ⟨x, hx0⟩ : ∃ x, ix b k = x := ⟨_, rfl⟩
        have hxb := ix_bd hby k
        rw [hx0] at d1 hxb
        have hkb : k < b.length := by rw [← HBN.out]; exact hlt
        have hbk : b[k] = x := by rw [← hx0]; simp [ix, hkb]
        have hkI : (0 : Int) ≤ k ∧ (k : Int) < (n : Int) := by omega
        clear e1 hx0
        by_cases hlt2 : k + 1 < n
        · obtain ⟨ad', ea, hbl', e2⟩ := R.at_ hlt2
          injection ea with ea
          subst ea
          have d2 := (hb.cell (p := ad.add (k + 1)) (by rw [addr_block]; exact hbl)).trans e2
          obtain ⟨y, hy0⟩ : ∃ y, ix b (k + 1) = y := ⟨_, rfl⟩
          have hyb := ix_bd hby (k + 1)
          rw [hy0] at d2 hyb
          have hkb2 : k + 1 < b.length := by rw [← HBN.out]; exact hlt2
          have hbk2 : b[k + 1] = y := by rw [← hy0]; simp [ix, hkb2]
          have hk2I : (k : Int) + 1 < (n : Int) := by omega
          obtain ⟨kk, hkk⟩ : ∃ kk : Nat, k + 1 = kk := ⟨_, rfl⟩
          rw [hkk] at d2
          have hw1 : IntKind.i64.wrap ((k : Int) + 1) = (kk : Int) := by rw [IntWalk.i64_in _ (by omega)]; omega
          have hw1b : (0 : Int) ≤ (kk : Int) ∧ (kk : Int) < (n : Int) := by omega
          have HKK := Lib.hid hkk
          obtain ⟨V, hV⟩ : ∃ V, x + 256 * y = V := ⟨_, rfl⟩
          have hVb : 0 ≤ V ∧ V < 65536 := by omega
          have e3 : IntKind.u32.wrap (256 * y) = 256 * y := by rw [IntKind.wrap_u32]; omega
          have e4 : IntKind.u32.wrap (x + 256 * y) = V := by rw [IntKind.wrap_u32, hV]; omega
          have ex : IntKind.u32.wrap x = x := by rw [IntKind.wrap_u32]; omega
          have ey : IntKind.u32.wrap y = y := by rw [IntKind.wrap_u32]; omega
          have HS : Hid (L0 ++ bts (b.take (k + 2)) = (L0 ++ bts (b.take k)) ++ ofN V 16) := by
            show _ = _
            rw [show k + 2 = k + 1 + 1 by omega, List.take_succ_eq_append_getElem hkb2, List.take_succ_eq_append_getElem hkb, hbk, hbk2, bts_append, bts_append, ← hV, Int.mul_comm, two_bytes hxb]
            simp [bts]
          clear hV e2 hy0 hbk hbk2 hkk
          go_wp2
          go_region_held3 (fun w' => w'.cell? (ad.add k) = some (.int .u8 x) ∧ w'.cell? (ad.add kk) = some (.int .u8 y))
            (first | go_keep | exact ⟨k1, k2⟩)
            (first | (go_at_call 10; (refine (put_ok _ _ _ _ _ _ _ (hy.keeps (Below.refl _ wr).drew) V 16 (by omega) (by omega) hylen).mono ?_); rintro e w9 ⟨A9, n9, c9, rfl, hy9, hg9, hf9⟩
                      have hq : ∀ j, w9.cell? (ad.add j) = wr.cell? (ad.add j) := fun j => hg9.cell (by rw [addr_block]; have := hb.size; show _ < wr.heap.size; omega) (by rw [addr_block]; intro h; have := (hy.foot_lo h).1; omega)
                      have k1 := (hq k).trans d1
                      have k2 := (hq kk).trans d2))
          go_wp2
          go_roundw
          case rel => exact ⟨k + 2, n9, c9, A9, by omega, by go_num, by rw [HS.out]; exact YLoop.next (hy.keeps (Below.refl _ wr).drew) (hx.keeps (Below.refl _ wr).drew) hd hb.drew hy9 hg9 hf9⟩
          case measure => simp [intOf]; omega
        · have hk2I : ¬ (k : Int) + 1 < (n : Int) := by omega
          have HS : Hid (L0 ++ bts (b.take (k + 2)) = (L0 ++ bts (b.take k)) ++ ofN x 8) := by
            show _ = _
            have hkn : k + 1 = b.length := by rw [← HBN.out]; omega
            have : b.take (k + 2) = b.take (k + 1) := by rw [List.take_of_length_le (by omega), hkn, List.take_length]
            rw [this, List.take_succ_eq_append_getElem hkb, hbk, bts_append]
            simp [bts]
          clear hbk
          go_wp2_with fail
          refine (put_ok _ _ _ _ _ _ _ hy x 8 (by omega) (by omega) hylen).mono ?_
          rintro e w9 ⟨A9, n9, c9, rfl, hy9, hg9, hf9⟩
          go_wp2
          go_roundw
          case rel => exact ⟨k + 2, n9, c9, A9, by omega, by go_num, by rw [HS.out]; exact YLoop.next hy hx hd hb hy9 hg9 hf9⟩
          case measure => simp [intOf]; omega
      · have hkI : ¬ (k : Int) < (n : Int) := by omega
        have hbt : b.take k = b := List.take_of_length_le (by rw [← HBN.out]; omega)
        rw [hbt] at hy
        clear hbt hylen
        obtain ⟨Pt, hPt⟩ : ∃ Pt, byt (L0 ++ bts b) = Pt := ⟨_, rfl⟩
        have hPe : Pt = byt L0 ++ b := by rw [← hPt, byt_even hL0e, byt_bts hby]
        have hPb : ∀ x ∈ Pt, 0 ≤ x ∧ x < 256 := by rw [← hPt]; exact byt_bd (hL0b.app (Bit.bts b))
        obtain ⟨k0, hk0⟩ : ∃ k0, L0.length / 8 = k0 := ⟨_, rfl⟩
        have hk01 : k0 ≤ 1 := by omega
        have hPl : Pt.length = k0 + n := by rw [hPe, List.length_append, byt_length, hk0, HBN.out]
        have hPd : (Pt.drop k0).take n = b := by rw [hPe, ← hk0, ← byt_length, List.drop_left, List.take_of_length_le (Nat.le_of_eq HBN.out.symm)]
        have hPx : ∀ i, i < n → ix Pt (k0 + i) = ix b i := fun i hi => by rw [← ix_drop, hPe, ← hk0, ← byt_length, List.drop_left]
        have HPL := Lib.hid hPl
        have HPD := Lib.hid hPd
        have HPX : Hid (∀ i, i < n → ix Pt (k0 + i) = ix b i) := hPx
        go_wp2_with fail
        refine (wtrTake_any _ _ _ _ _ _ _ hx).mono ?_
        rintro e w9 ⟨rfl, hop, hx9, hg9⟩
        have hy9 := hy.chg hg9 (fun q hq h => hd q hq (.inl h))
        have hb9 := hb.trans (hg9.below (fun q hq => hq ▸ hx.lo) hb.size)
        have hpy : ∀ q, foot A8 gy q → blkOf A7 ≠ some q := fun q hq h => hd q hq (.inr h)
        go_wp2_with fail
        refine (wtrTake_any _ _ _ _ _ _ _ hy9).mono ?_
        rintro e w10 ⟨rfl, hoq, hy10, hg10⟩
        have hop := hg10.ownI hop (fun q hq h => hpy gy (.inl rfl) (h ▸ hq))
        have hb10 := hb9.trans (hg10.below (fun q hq => hq ▸ hy9.lo) hb9.size)
        rw [hPt] at hop hoq
        clear hx9 hg9 hy9 hb9 hpy hy10 hg10 hx hy hd hb hPt hPe hk0 hPl hPd hPx
        have hn7 : n7 = k0 + n := by rw [hop.1, HPL.out]
        have hsub : (n7 : Int) - (n : Int) = (k0 : Int) := by omega
        have hn7b : (0 : Int) ≤ n7 ∧ (n7 : Int) ≤ 2000 := by omega
        clear hn7
        go_wp2_with fail
        refine (rdrNew_any _).mono ?_
        rintro e w11 ⟨gr, rfl, hr11, hb11⟩
        go_wp2_with fail
        refine (rdrNew_any _).mono ?_
        rintro e w12 ⟨gs, rfl, hs12, hb12⟩
        have hgrs : gr < gs := by have := hr11.cell.lt; have := hs12.lo; omega
        have hpr := own_new hop hr11.lo
        have hqr := own_new hoq hr11.lo
        have hop := hop.keeps hb11
        have hoq := hoq.keeps hb11
        have hps := own_new hop hs12.lo
        have hqs := own_new hoq hs12.lo
        have hop := hop.keeps hb12
        have hoq := hoq.keeps hb12
        have hr12 := (hr11.keeps hb12).more hb10.size
        have hbw11 := hb10.trans (hb11.mono hb10.size)
        have hbw12 := hbw11.trans (hb12.mono hbw11.size)
        have hs12 := hs12.more hbw11.size
        have hfl : ([] : List Int).length + Pt.length ≤ 1000000000000 := by have := HPL.out; simp; omega
        clear hr11 hb11 hb10 hbw11 hb12
        go_wp2_with fail
        refine (rdrFeed_any _ _ _ _ _ _ _ _ _ _ _ _ _ hr12 hop.rd (Nat.le_refl _) hPb hfl).mono ?_
        rintro e w13 ⟨Ar, nr, cr, rfl, hr13, hg13, hAr⟩
        have hop := hg13.ownI hop (fun q hq h => hpr (h ▸ hq))
        have hoq := hg13.ownI hoq (fun q hq h => hqr (h ▸ hq))
        have hs13 := hs12.chg hg13 (fun q hq h => by
          rcases hq with hq | hq
          · omega
          · cases hq)
        have hb13 := hbw12.trans (hg13.below (fun q hq => hq ▸ hr12.lo) hbw12.size)
        have hAr : blkOf Ar ≠ some gs := fun h => by have := hAr gs h; have := hs12.cell.lt; omega
        rw [show ([] : List Int).drop (0 / 8) ++ Pt = Pt from rfl, show 0 % 8 = 0 from rfl] at hr13
        go_wp2_with fail
        refine (rdrFeed_any _ _ _ _ _ _ _ _ _ _ _ _ _ hs13 hoq.rd (Nat.le_refl _) hPb hfl).mono ?_
        rintro e w14 ⟨As, ns, cs, rfl, hs14, hg14, hAs⟩
        rw [show ([] : List Int).drop (0 / 8) ++ Pt = Pt from rfl, show 0 % 8 = 0 from rfl] at hs14
        have hop := hg14.ownI hop (fun q hq h => hps (h ▸ hq))
        have hoq := hg14.ownI hoq (fun q hq h => hqs (h ▸ hq))
        have hr14 := hr13.chg hg14 (fun q hq h => by
          rcases hq with hq | hq
          · omega
          · exact hAr (h ▸ hq))
        have hb14 := hb13.trans (hg14.below (fun q hq => hq ▸ hs13.lo) hb13.size)
        have hAsr : blkOf As ≠ some gr := fun h => by have := hAs gr h; have := hr13.cell.lt; omega
        have hnr := hr14.n_eq
        have hns := hs14.n_eq
        have hlen : Pt.length ≤ 1000000000000 := by simpa using hfl
        have hkr : (k0 : Int) = max 0 (min (k0 : Int) ((nr - (0 + 7) / 8 : Nat) : Int)) := by have := HPL.out; omega
        have hks : (k0 : Int) = max 0 (min (k0 : Int) ((ns - (0 + 7) / 8 : Nat) : Int)) := by have := HPL.out; omega
        have hkz : (n : Int) = max 0 (min ((n : Int) + 9) ((nr - (8 * k0 + 7) / 8 : Nat) : Int)) := by have := HPL.out; omega
        have HKR := Lib.hid hkr
        have HKS := Lib.hid hks
        have HKZ := Lib.hid hkz
        have HNS := Lib.hid hns
        clear hr12 hbw12 hr13 hg13 hs13 hb13 hs12 hg14 hnr hns hkr hks hkz hAs
        go_wp2_with fail
        refine (rdrRead_any _ _ _ _ _ _ _ _ hr14 hlen (k0 : Int) k0 HKR.out).mono ?_
        rintro e w15 ⟨Ai, ci, rfl, -, hr15, hg15⟩
        have hop := hg15.ownI hop (fun q hq h => hpr (h ▸ hq))
        have hoq := hg15.ownI hoq (fun q hq h => hqr (h ▸ hq))
        have hs15 := hs14.chg hg15 (fun q hq h => by
          rcases hq with hq | hq
          · omega
          · exact hAsr (h ▸ hq))
        have hb15 := hb14.trans (hg15.below (fun q hq => hq ▸ hr14.lo) hb14.size)
        rw [show (0 + 7) / 8 * 8 + 8 * k0 = 8 * k0 by omega] at hr15
        go_wp2_with fail
        refine (rdrRead_any _ _ _ _ _ _ _ _ hs15 hlen (k0 : Int) k0 HKS.out).mono ?_
        rintro e w16 ⟨Aj, cj, rfl, -, hs16, hg16⟩
        rw [show (0 + 7) / 8 * 8 + 8 * k0 = 8 * k0 by omega] at hs16
        have hop := hg16.ownI hop (fun q hq h => hps (h ▸ hq))
        have hoq := hg16.ownI hoq (fun q hq h => hqs (h ▸ hq))
        have hr16 := hr15.chg hg16 (fun q hq h => by
          rcases hq with hq | hq
          · omega
          · exact hAr (h ▸ hq))
        have hb16 := hb15.trans (hg16.below (fun q hq => hq ▸ hs15.lo) hb15.size)
        clear hr14 hb14 hs14 hr15 hg15 hs15 hb15 hg16
        go_wp2_with fail
        refine (rdrRead_any _ _ _ _ _ _ _ _ hr16 hlen ((n : Int) + 9) n HKZ.out).mono ?_
        rintro e w17 ⟨Az, cz, rfl, hoz, hr17, hg17⟩
        have hop := hg17.ownI hop (fun q hq h => hpr (h ▸ hq))
        have hoq := hg17.ownI hoq (fun q hq h => hqr (h ▸ hq))
        have hs17 := hs16.chg hg17 (fun q hq h => by
          rcases hq with hq | hq
          · omega
          · exact hAsr (h ▸ hq))
        have hb17 := hb16.trans (hg17.below (fun q hq => hq ▸ hr16.lo) hb16.size)
        rw [show (8 * k0 + 7) / 8 = k0 by omega, HPD.out] at hoz
        have hzs : blkOf Az ≠ some gs := fun h => by have := (hoz.2.lt h).1; have := hs16.cell.lt; omega
        have hoz := hoz.more hb16.size
        clear hr16 hb16 hs16 hr17 hg17
        go_wp2_with fail
        go_loopw [13] (SLoop w gs ns cs k0 n As Pt b A7 A8 Az n7 c7 m c2 cz) (fun i _ => n - (intOf i).toNat)
        case atStart => exact ⟨0, Nat.zero_le _, rfl, hs17, hop, hoq, hoz, hps, hqs, hzs, hb17⟩
        case round =>
          clear hs17 hop hoq hoz hb17 hps hqs hzs
          obtain ⟨k, hk, rfl, hs, hop, hoq, hoz, hps, hqs, hzs, hb⟩ := hrel
          by_cases hlt : k < n
          · have hkI : (0 : Int) ≤ k ∧ (k : Int) < (n : Int) := by omega
            obtain ⟨ad, rfl, hbl, e1⟩ := R.at_ hlt
            obtain ⟨x, hx0⟩ : ∃ x, ix b k = x := ⟨_, rfl⟩
            have hxb := ix_bd hby k
            rw [hx0] at e1 hxb
            have hnum : numI ((rb Pt (8 * (k0 + k))).take 8) = x := by
              have h8 : (2 : Int) ^ 8 = 256 := rfl
              unfold rb
              rw [bts_byte Pt (by have := HPL.out; omega), numI_ofN, HPX.out k hlt, hx0, h8]
              omega
            have hl8 : 8 ≤ (rb Pt (8 * (k0 + k))).length := by rw [rb_length]; have := HPL.out; omega
            have HNUM := Lib.hid hnum
            clear hnum hx0
            go_wp2_with fail
            refine (get_ok _ _ _ _ _ _ _ _ hs hlen 8 (by omega) hl8).mono ?_
            rintro e w20 ⟨rfl, hs20, hg20⟩
            rw [HNUM.out]
            have hb20 := hb.trans (hg20.below (fun q hq => hq ▸ hs.lo) hb.size)
            have d1 := (hb20.cell (p := ad.add k) (by rw [addr_block]; exact hbl)).trans e1
            go_wp2
            go_roundw
            case rel => exact ⟨k + 1, hlt, by go_num, by rw [show 8 * (k0 + (k + 1)) = 8 * (k0 + k) + 8 by omega]; exact hs20, hg20.ownI hop (fun q hq h => hps (h ▸ hq)), hg20.ownI hoq (fun q hq h => hqs (h ▸ hq)), hg20.ownI hoz (fun q hq h => hzs (h ▸ hq)), hps, hqs, hzs, hb20⟩
            case measure => simp [intOf]; omega
          · obtain rfl : k = n := by omega
            have hRz : RdI .u8 wr w.heap.size A k b := R.below hb
            have hl0 : Hid (8 * ns - 8 * (k0 + k) = 0) := by show _ = _; have := HNS.out; have := HPL.out; omega
            have hnn : (n7 : Int) ≤ 1000000000 := by omega
            go_wp2_with fail
            refine (answers1_any _).mono ?_
            rintro e w21 ⟨rfl, hb21⟩
            have hop := (hop.keeps hb21).rd
            have hoq := (hoq.keeps hb21).rd
            have hoz := (hoz.keeps hb21).rd
            have hs := hs.keeps hb21
            have hRz := ((hRz.more hb.size).below hb21).more hb21.size
            have hb := hb.trans (hb21.mono hb.size)
            clear hb21
            go_wp2_with fail
            refine (same_any w21 w21.heap.size _ _ _ _ A7 A8 Pt Pt hop hoq (by omega) rfl).mono ?_
            rintro e w22 ⟨rfl, q22, rfl⟩
            have hs2 := hs.drewN q22
            have hoz2 := hoz.drewN q22
            have hRz2 := hRz.drewN q22
            have hb2 := below_drewN hb q22
            obtain ⟨w22, hw22⟩ : ∃ w22, w21.drewN q22 = w22 := ⟨_, rfl⟩
            rw [hw22] at hs2 hoz2 hRz2 hb2 ⊢
            clear hw22 hop hoq hoz hs hRz hb
            go_wp2_with fail
            refine (same_any w22 _ _ _ _ _ Az A b b hoz2 hRz2 (by omega) rfl).mono ?_
            rintro e w23 ⟨rfl, q23, rfl⟩
            have hs3 := hs2.drewN q23
            have hb3 := below_drewN hb2 q23
            obtain ⟨w23, hw23⟩ : ∃ w23, w22.drewN q23 = w23 := ⟨_, rfl⟩
            rw [hw23] at hs3 hb3 ⊢
            clear hw23
            go_wp2_with fail
            refine (rdrLeft_any _ _ _ _ _ _ _ _ hs3 hlen).mono ?_
            rintro e w24 ⟨rfl, q24, rfl⟩
            rw [hl0.out]
            go_wp2
            go_ret
            exact ⟨rfl, below_drewN hb3 q24⟩
end Go.Proofs.Ytefignampkdclaa
