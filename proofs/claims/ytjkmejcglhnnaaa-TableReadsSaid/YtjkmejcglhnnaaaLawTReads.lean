/-
  The walk of the statement TableReads.
-/
import Derived.Test.YtjkmejcglhnnaaaProg
import Derived.Test.YtjkmejcglhnnaaaAns6
import Derived.Test.YtjkmejcglhnnaaaTBackP
import Derived.Test.YtjkmejcglhnnaaaRCheck
import Derived.Test.YtjkmejcglhnnaaaTRead
import Derived.Test.YtjkmejcglhnnaaaRefB
import Derived.Test.YtjkmejcglhnnaaaOpenC
namespace Go.Proofs.Ytjkmejcglhnnaaa
open Go.RowKit
set_option linter.unusedVariables false

/-- the bits of the first fed bytes from bit at on -/
def xb (b : List Int) (fed at_ : Nat) : List Int := (bts (b.take fed)).drop at_
theorem xb_split (b : List Int) {fed at_ : Nat} (hf : fed ≤ b.length) (h : at_ ≤ 8 * fed) : (bts b).drop at_ = xb b fed at_ ++ bts (b.drop fed) := by
  unfold xb
  conv => lhs; rw [← List.take_append_drop fed b]
  rw [bts_append, List.drop_append_of_le_length (by rw [bts_length, List.length_take, Nat.min_eq_left hf]; exact h)]
theorem xb_feed (b : List Int) {fed k at_ : Nat} (hf : fed ≤ b.length) (h : at_ ≤ 8 * fed) : xb b (fed + k) at_ = xb b fed at_ ++ bts ((b.drop fed).take k) := by
  unfold xb
  rw [List.take_add, bts_append, List.drop_append_of_le_length (by rw [bts_length, List.length_take, Nat.min_eq_left hf]; exact h)]
theorem xb_length (b : List Int) {fed : Nat} (at_ : Nat) (hf : fed ≤ b.length) : (xb b fed at_).length = 8 * fed - at_ := by
  unfold xb; rw [List.length_drop, bts_length, List.length_take, Nat.min_eq_left hf]
theorem Bit.xb (b : List Int) (fed at_ : Nat) : Bit (xb b fed at_) := (Bit.bts _).drop_ _
/-- what the loops keep: the reader holds the bits that were fed, from at on -/
def RdAt (wB : World) (gr : Nat) (b : List Int) (fed at_ : Nat) (wr : World) : Prop :=
  ∃ (n1 c1 a : Nat) (A1 : Option Addr) (Bs : List Int), Rdr wr wB.heap.size gr A1 n1 c1 Bs a ∧ rb Bs a = xb b fed at_ ∧ at_ ≤ 8 * fed ∧ fed ≤ b.length ∧ Bs.length ≤ fed ∧ Below wB.heap.size wB wr
def TReadsOut (wB : World) (gr : Nat) (b : List Int) (at_ fed : Value) (wr : World) : Prop :=
  ∃ k f : Nat, at_ = .int .i64 k ∧ fed = .int .i64 f ∧ RdAt wB gr b f k wr
def TReadsIn (wB : World) (gr : Nat) (l b : List Int) (at_ : Nat) (fed got err : Value) (wr : World) : Prop :=
  ∃ f : Nat, fed = .int .i64 f ∧ got = .int .i64 (nextOf l (xb b f at_)).1 ∧ err = .int .i64 (nextOf l (xb b f at_)).2.2 ∧ f ≤ b.length ∧ at_ ≤ 8 * f ∧ RdAt wB gr b f (at_ + (nextOf l (xb b f at_)).2.1) wr

set_option maxRecDepth 100000 in
set_option maxHeartbeats 8000000 in
theorem tableReads_law (A : Option Addr) (n c : Nat) (l : List Int) (most : Int) (A' : Option Addr) (n' c' : Nat) (b : List Int) (part : Int) (w : World) (T : InC .i64 w A n c l) (hmost : (Lit.int .i64 most).wf = true) (T' : InC .u8 w A' n' c' b) (hpart : (Lit.int .u8 part).wf = true) :
    Calls Try.prog 3 #[.slice A n c, .int .i64 most, .slice A' n' c', .int .u8 part] w fun e w' => e = .returned (.bool true) ∧ Below w.heap.size w w' := by
  obtain ⟨R, m0, f0, lc0, cm0⟩ := T
  obtain ⟨R', m0', f0', lc', cm0'⟩ := T'
  have hn : (n : Int) ≤ 9223372036854775807 := by unfold maxLen at m0; omega
  have hn' : (n' : Int) ≤ 9223372036854775807 := by unfold maxLen at m0'; omega
  have hby : ∀ x ∈ b, 0 ≤ x ∧ x < 256 := fun x hx => bounds_u8 (f0' x hx)
  have hpb := bounds_u8 hpart
  clear m0 f0 cm0 m0' f0' cm0' hpart hmost
  by_cases h400 : 400 < (n : Int)
  · go_enter Try.func3, Try.ntmps3
    go_wp2_with fail
    refine (answers6_any _).mono ?_
    rintro e w4 ⟨rfl, hb4⟩
    go_wp2
    go_ret
    exact ⟨rfl, hb4⟩
  by_cases h500 : 500 < (n' : Int)
  · go_enter Try.func3, Try.ntmps3
    go_wp2_with fail
    refine (answers6_any _).mono ?_
    rintro e w4 ⟨rfl, hb4⟩
    go_wp2
    go_ret
    exact ⟨rfl, hb4⟩
  have hn1 : (n : Int) ≤ 400 ∧ (0 : Int) ≤ n := by omega
  have hn1' : (n' : Int) ≤ 500 ∧ (0 : Int) ≤ n' := by omega
  obtain ⟨i0, hi, hz0, hz1, hz2⟩ := info_parts tint_info
  have Hi := Lib.hid hi
  have Hz0 := Lib.hid hz0
  have Hz1 := Lib.hid hz1
  have Hz2 := Lib.hid hz2
  clear hi hz0 hz1 hz2
  have hra := R.alloc (Nat.le_refl _) (.cells #[] 3)
  have HN := Lib.hid R.1
  have HN' := Lib.hid R'.1
  obtain ⟨i1, hi, hz0, hz1, hz2⟩ := info_parts fbyte_info
  have Hb := Lib.hid hi
  have Hb1 := Lib.hid hz1
  clear hi hz0 hz1 hz2
  go_enter Try.func3, Try.ntmps3
  go_wp2_with (at_builtin; (refine wpList_app .i64 w.heap.size 3 i0 8 rfl (.tmp 32) (.tmp 33) _ rfl Try.underlying22 Hi.out Hz0.out Hz1.out Hz2.out rfl (OwnI.lit rfl [] _ (Nat.le_refl _) (by simp)) rfl hra (by omega) (by omega) (by simp) ?_)
               intro A2 d2 w2 hown hg hat)
  rw [List.nil_append, Nat.zero_add] at hown
  have hb2 : Below w.heap.size w w2 := ((Below.refl _ w).alloc (Nat.le_refl _) _).grown hg (by simp) (by simp [blkOf])
  clear hra hat hg
  by_cases hck : checkOf l most = 0
  · obtain ⟨hl288, hin, hS⟩ := check_ok' hck
    have HCK := Lib.hid hck
    clear hck
    go_wp2_with fail
    refine (build_ok _ _ _ _ _ l most hown.rd (Nat.le_refl _) (by rw [HN.out]; exact hl288) HCK.out).mono ?_
    rintro e w3 ⟨gt, rfl, ht3, hb3⟩
    have hbw3 := hb2.trans (hb3.mono hb2.size)
    go_wp2_with fail
    refine (answers6_any _).mono ?_
    rintro e w4 ⟨rfl, hb4⟩
    have ht4 := ht3.keeps (Nat.le_refl _) hb4
    have hbw4 := hbw3.trans (hb4.mono hbw3.size)
    go_wp2_with fail
    refine (rcheck_any _ _ _ _ _ most _ (R.below hbw4) (by omega)).mono ?_
    rintro e w5 ⟨rfl, rfl⟩
    rw [HCK.out]
    go_wp2_with fail
    have R4 := (R.below hbw4).more hbw4.size
    refine (rcodes_any _ _ _ _ _ _ R4 (Nat.le_refl _) (by rw [HN.out]; exact hl288)).mono ?_
    rintro e w5 ⟨gc, rfl, hcd5, hb5⟩
    have ht5 := ht4.keeps hb4.size hb5
    have hbw5 := hbw4.trans (hb5.mono hbw4.size)
    go_wp2_with fail
    refine (bits_any _ _ _ _ _ b (R'.below hbw5) hbw5.size hby (by omega)).mono ?_
    rintro e w6 ⟨A6, n6, c6, rfl, ho6, hb6⟩
    have ht6 := ht5.keeps (Nat.le_trans hb4.size hb5.size) hb6
    have hcd6 := hcd5.below hb6
    have hbw6 := hbw5.trans (hb6.mono hbw5.size)
    go_wp2_with fail
    refine (rdrNew_any _).mono ?_
    rintro e w7 ⟨gr, rfl, hr7, hb7⟩
    have hbw7 := hbw6.trans (hb7.mono hbw6.size)
    have hB36 : w3.heap.size ≤ w6.heap.size := Nat.le_trans hb4.size (Nat.le_trans hb5.size hb6.size)
    have hcd7 := hcd6.more (Nat.le_trans hb6.size (Nat.le_refl _))
    have hall := ho6.rd
    have hn6 : Hid (n6 = 8 * n') := by show _ = _; rw [ho6.1, bts_length, HN'.out]
    have hl288' : n ≤ 288 := by rw [HN.out]; exact hl288
    have HL288 := Lib.hid hl288
    have HIN := Lib.hid hin
    have hst : RdAt w6 gr b 0 0 w7 := ⟨0, 0, 0, none, [], hr7, rfl, Nat.zero_le _, Nat.zero_le _, Nat.le_refl _, hb7⟩
    have hlo6 := hr7.lo
    obtain ⟨p5, hp5⟩ := Int.eq_ofNat_of_zero_le (show 0 ≤ part % 5 by omega)
    have hp5t : part.tmod 5 = (p5 : Int) := by rw [Int.tmod_eq_emod_of_nonneg hpb.1, hp5]
    have hp5b : (0 : Int) ≤ p5 ∧ (p5 : Int) ≤ 4 := by omega
    clear hin hl288 hS hb2 hbw3 hbw4 hbw5 hb3 hb4 hb5 ht3 ht4 ht5 hcd5 hcd6 R4 hown hr7 ho6
    go_wp2_with fail
    go_loopw [13, 15] (TReadsOut w6 gr b) (fun at_ _ _ => 8 * n' + 1 - (intOf at_).toNat)
    case atStart => exact ⟨0, 0, rfl, rfl, hst⟩
    case round =>
      clear hst hb7 hbw7
      obtain ⟨k, f, rfl, rfl, n1, c1, a, A1, Bs, hr, hrb, hkf, hfb, hBs, hb⟩ := hrel
      have hbw := hbw6.trans (hb.mono hbw6.size)
      have hfn : f ≤ n' := by rw [HN'.out]; exact hfb
      have Rr := (R.below hbw).more hbw.size
      have hcr := (hcd7.below hb).more hb.size
      have har := (hall.below hb).more hb.size
      have hkn : k ≤ n6 := by rw [hn6.out]; omega
      have hbl : b.length ≤ 500 := by rw [← HN'.out]; omega
      go_wp2_with fail
      refine (rread_any _ _ _ _ _ _ _ _ _ k l (bts b) Rr hcr har (Bit.bts b) hl288' (fun i hi => HIN.out i (by rw [← HN.out]; exact hi)) hkn (by rw [hn6.out]; omega)).mono ?_
      rintro e w8 ⟨rfl, hb8⟩
      have hr8 := hr.keeps hb8
      have hbB8 := hb.trans (hb8.mono hb.size)
      have htt := ht6.keeps hB36 hbB8
      obtain ⟨want, hwant⟩ : ∃ want, nextOf l ((bts b).drop k) = want := ⟨_, rfl⟩
      rw [hwant]
      obtain ⟨K', N', E'⟩ := want
      have HW := Lib.hid hwant
      clear hwant
      go_wp2_with fail
      refine (next_any _ _ _ _ _ _ _ _ _ _ _ _ htt HL288.out hr8 (by omega) (Nat.le_trans hB36 hbB8.size) (fun q h1 h2 => by omega)).mono ?_
      rintro e w9 ⟨rfl, hr9, hg9⟩
      rw [hrb] at hr9 ⊢
      have hbB9 := hbB8.trans (hg9.below (fun q hq => hq ▸ hlo6) hbB8.size)
      have hin0 : TReadsIn w6 gr l b k (.int .i64 f) (.int .i64 (nextOf l (xb b f k)).1) (.int .i64 (nextOf l (xb b f k)).2.2) w9 := by
        refine ⟨f, rfl, rfl, rfl, hfb, hkf, n1, c1, _, A1, Bs, hr9, ?_, ?_, hfb, hBs, hbB9⟩
        · rw [← rb_drop, hrb]; unfold xb; rw [List.drop_drop]
        · rcases nextOf_err l (xb b f k) with h | h | h
          · have := (nextOf_pos h).2.1; rw [xb_length b k hfb] at this; omega
          · have := (nextOf_none (x := xb b f k) (l := l) (by omega)).2; omega
          · have := (nextOf_none (x := xb b f k) (l := l) (by omega)).2; omega
      obtain ⟨x0, hx0⟩ : ∃ x0, nextOf l (xb b f k) = x0 := ⟨_, rfl⟩
      rw [hx0] at hin0 ⊢
      obtain ⟨K0, N0, E0⟩ := x0
      dsimp only at hin0 ⊢
      clear hr9 hg9 hbB9 hbB8 hr8 hb8 htt Rr hcr har hbw hb hr hrb hBs hx0
      go_wp2_with fail
      go_loopw [15, 19, 20] (TReadsIn w6 gr l b k) (fun f _ _ _ => n' - (intOf f).toNat)
      case atStart => exact hin0
      case round =>
        clear hin0 hkf hfb hfn
        obtain ⟨f, rfl, rfl, rfl, hfb, hkf, n1, c1, a, A1, Bs, hr, hrb, hle, -, hBs, hb⟩ := hrel
        have hfn : f ≤ n' := by rw [HN'.out]; exact hfb
        have hbw := hbw6.trans (hb.mono hbw6.size)
        obtain ⟨y, hy⟩ : ∃ y, nextOf l (xb b f k) = y := ⟨_, rfl⟩
        have hpos := nextOf_pos (l := l) (x := xb b f k)
        have hnone := nextOf_none (l := l) (x := xb b f k)
        have herr := nextOf_err l (xb b f k)
        have happ := nextOf_app l (xb b f k)
        rw [xb_length b k hfb] at hpos
        rw [hy] at hrb hle hpos hnone herr happ ⊢
        obtain ⟨K, N, E⟩ := y
        dsimp only at hrb hle hpos hnone herr happ ⊢
        by_cases hgo : E = 5 ∧ f < n'
        · obtain ⟨rfl, hlt⟩ := hgo
          obtain ⟨rfl, rfl⟩ := hnone (by omega)
          rw [Nat.add_zero] at hrb hle
          have hltI : (f : Int) < (n' : Int) ∧ (0 : Int) ≤ f := by omega
          have hnn := HN'.out
          have key : ∀ en : Nat, f < en → en ≤ n' → ∀ ww : World, (∃ A3 n3 c3, Rdr ww w6.heap.size gr A3 n3 c3 (Bs.drop (a / 8) ++ (b.drop f).take (en - f)) (a % 8)) → Below w6.heap.size w6 ww → RdAt w6 gr b en k ww := fun en h1 h2 ww ⟨A3, n3, c3, hr3⟩ hb3 => by
            refine ⟨n3, c3, _, A3, _, hr3, ?_, by omega, by omega, ?_, hb3⟩
            · rw [rb_feed _ _ hr.le, hrb]
              have e := xb_feed b (k := en - f) hfb hle
              rw [show f + (en - f) = en by omega] at e
              rw [e]
            · simp
              omega
          have hby2 : ∀ m, ∀ x ∈ (b.drop f).take m, 0 ≤ x ∧ x < 256 := fun m x hx => hby x (List.mem_of_mem_drop (List.mem_of_mem_take hx))
          have hrd : ∀ en, f < en → en ≤ n' → RdI .u8 wr w.heap.size (cutA A' c' f) (en - f) ((b.drop f).take (en - f)) := fun en h1 h2 => ((R'.below hbw).cutA (j := f) hfn lc').pre (by omega)
          by_cases hend : (n' : Int) < (f : Int) + (p5 : Int) + 1
          · have hsl := run_slice_mid (P := Try.prog) 23 5 Try.underlying23 Hb.out Hb1.out A' n' c' (a := f) (b := n') hfn lc'
            have hrd2 := hrd n' hlt (Nat.le_refl _)
            have hby3 := hby2 (n' - f)
            have hkey := key n' hlt (Nat.le_refl _)
            have hlen3 : Bs.length + ((b.drop f).take (n' - f)).length ≤ 1000000000000 := by simp; omega
            clear key hrd hby2 hnn hpos hnone herr happ
            go_wp2_with fail
            refine (rdrFeed_any _ _ _ _ _ _ _ _ _ _ _ _ _ hr hrd2 hbw.size hby3 hlen3).mono ?_
            rintro e w8 ⟨A3, n3, c3, rfl, hr3, hg3, hA3⟩
            have hbB3 := hb.trans (hg3.below (fun q hq => hq ▸ hlo6) hb.size)
            obtain ⟨n4, c4, a4, A4, Bs4, hr4, hrb4, hk4, hf4, hBs4, -⟩ := hkey w8 ⟨A3, n3, c3, hr3⟩ hbB3
            have htt := ht6.keeps hB36 hbB3
            clear hr3 hkey hrb hr
            go_wp2_with fail
            refine (next_any _ _ _ _ _ _ _ _ _ _ _ _ htt HL288.out hr4 (by omega) (Nat.le_trans hB36 hbB3.size) (fun q h1 h2 => by omega)).mono ?_
            rintro e w9 ⟨rfl, hr9, hg9⟩
            rw [hrb4] at hr9 ⊢
            have hbB9 := hbB3.trans (hg9.below (fun q hq => hq ▸ hlo6) hbB3.size)
            have hin9 : TReadsIn w6 gr l b k (.int .i64 n') (.int .i64 (nextOf l (xb b n' k)).1) (.int .i64 (nextOf l (xb b n' k)).2.2) w9 := by
              refine ⟨n', rfl, rfl, rfl, hf4, hk4, n4, c4, _, A4, Bs4, hr9, ?_, ?_, hf4, hBs4, hbB9⟩
              · rw [← rb_drop, hrb4]; unfold xb; rw [List.drop_drop]
              · rcases nextOf_err l (xb b n' k) with h | h | h
                · have := (nextOf_pos h).2.1; rw [xb_length b k hf4] at this; omega
                · have := (nextOf_none (x := xb b n' k) (l := l) (by omega)).2; omega
                · have := (nextOf_none (x := xb b n' k) (l := l) (by omega)).2; omega
            obtain ⟨x0, hx0⟩ : ∃ x0, nextOf l (xb b n' k) = x0 := ⟨_, rfl⟩
            rw [hx0] at hin9 ⊢
            obtain ⟨K0, N0, E0⟩ := x0
            dsimp only at hin9 ⊢
            clear hr9 hg9 hbB9 hx0
            go_wp2_with fail
            go_roundw
            case rel => exact hin9
            case measure => simp [intOf]; omega
          · obtain ⟨en, hen⟩ : ∃ en : Nat, f + p5 + 1 = en := ⟨_, rfl⟩
            have henI : (f : Int) + (p5 : Int) + 1 = (en : Int) := by omega
            have hef : f < en := by omega
            have hen' : en ≤ n' := by omega
            have hendI : ¬ (n' : Int) < (en : Int) := by omega
            have hsl := run_slice_mid (P := Try.prog) 23 5 Try.underlying23 Hb.out Hb1.out A' n' c' (a := f) (b := en) (by omega) (by omega)
            have hrd2 := hrd en hef hen'
            have hby3 := hby2 (en - f)
            have hkey := key en hef hen'
            have hlen3 : Bs.length + ((b.drop f).take (en - f)).length ≤ 1000000000000 := by simp; omega
            clear key hrd hby2 hen hnn hpos hnone herr happ
            go_wp2_with fail
            refine (rdrFeed_any _ _ _ _ _ _ _ _ _ _ _ _ _ hr hrd2 hbw.size hby3 hlen3).mono ?_
            rintro e w8 ⟨A3, n3, c3, rfl, hr3, hg3, hA3⟩
            have hbB3 := hb.trans (hg3.below (fun q hq => hq ▸ hlo6) hb.size)
            obtain ⟨n4, c4, a4, A4, Bs4, hr4, hrb4, hk4, hf4, hBs4, -⟩ := hkey w8 ⟨A3, n3, c3, hr3⟩ hbB3
            have htt := ht6.keeps hB36 hbB3
            clear hr3 hkey hrb hr
            go_wp2_with fail
            refine (next_any _ _ _ _ _ _ _ _ _ _ _ _ htt HL288.out hr4 (by omega) (Nat.le_trans hB36 hbB3.size) (fun q h1 h2 => by omega)).mono ?_
            rintro e w9 ⟨rfl, hr9, hg9⟩
            rw [hrb4] at hr9 ⊢
            have hbB9 := hbB3.trans (hg9.below (fun q hq => hq ▸ hlo6) hbB3.size)
            have hin9 : TReadsIn w6 gr l b k (.int .i64 en) (.int .i64 (nextOf l (xb b en k)).1) (.int .i64 (nextOf l (xb b en k)).2.2) w9 := by
              refine ⟨en, rfl, rfl, rfl, hf4, hk4, n4, c4, _, A4, Bs4, hr9, ?_, ?_, hf4, hBs4, hbB9⟩
              · rw [← rb_drop, hrb4]; unfold xb; rw [List.drop_drop]
              · rcases nextOf_err l (xb b en k) with h | h | h
                · have := (nextOf_pos h).2.1; rw [xb_length b k hf4] at this; omega
                · have := (nextOf_none (x := xb b en k) (l := l) (by omega)).2; omega
                · have := (nextOf_none (x := xb b en k) (l := l) (by omega)).2; omega
            obtain ⟨x0, hx0⟩ : ∃ x0, nextOf l (xb b en k) = x0 := ⟨_, rfl⟩
            rw [hx0] at hin9 ⊢
            obtain ⟨K0, N0, E0⟩ := x0
            dsimp only at hin9 ⊢
            clear hr9 hg9 hbB9 hx0
            go_wp2_with fail
            go_roundw
            case rel => exact hin9
            case measure => simp [intOf]; omega
        · have heq : (K', N', E') = (K, N, E) := by
            have hw := HW.out
            by_cases h5 : E = 5
            · have hfe : f = b.length := by have := HN'.out; have : ¬ f < n' := fun h => hgo ⟨h5, h⟩; omega
              rw [← hw, ← hy, hfe]; unfold xb; rw [List.take_length]
            · rw [← hw, xb_split b hfb hkf, happ _ h5]
          injection heq with e1 e2
          injection e2 with e2 e3
          subst e1 e2 e3
          have hE5 : E' = 0 ∨ (E' = 3) ∨ (E' = 5 ∧ ¬ (f : Int) < (n' : Int)) := by omega
          clear hgo happ herr hy
          rcases hE5 with rfl | rfl | ⟨rfl, hfI⟩
          · have hp := hpos rfl
            have hrel2 : TReadsOut w6 gr b (.int .i64 ((k : Int) + (N' : Int))) (.int .i64 f) wr := ⟨k + N', f, by go_num, rfl, n1, c1, a, A1, Bs, hr, hrb, hle, hfb, hBs, hb⟩
            have hmeas : 8 * n' + 1 - ((k : Int) + (N' : Int)).toNat < 8 * n' + 1 - (k : Int).toNat := by omega
            have hkb : (k : Int) ≤ 4000 ∧ (N' : Int) ≤ 15 := by omega
            clear hpos hnone hrb hr hb hle
            go_wp2_with fail
            go_roundw
            case rel => exact hrel2
            case measure => exact hmeas
          · obtain ⟨rfl, rfl⟩ := hnone (by omega)
            rw [Nat.add_zero] at hrb
            have hlf : Hid (((8 * n1 - a : Nat) : Int) = 8 * (f : Int) - (k : Int)) := by
              show _ = _
              have h1 := congrArg List.length hrb
              rw [rb_length, xb_length b k hfb, ← hr.n_eq] at h1
              omega
            have hkb : (0 : Int) ≤ k ∧ (k : Int) ≤ 8 * (f : Int) ∧ (f : Int) ≤ 500 := by omega
            clear hpos hnone hrb hle
            go_wp2_with fail
            refine (rdrLeft_any _ _ _ _ _ _ _ _ hr (by omega)).mono ?_
            rintro e w9 ⟨rfl, q9, rfl⟩
            rw [hlf.out]
            go_wp2
            go_ret
            exact ⟨rfl, below_drewN hbw q9⟩
          · obtain ⟨rfl, rfl⟩ := hnone (by omega)
            rw [Nat.add_zero] at hrb
            have hlf : Hid (((8 * n1 - a : Nat) : Int) = 8 * (f : Int) - (k : Int)) := by
              show _ = _
              have h1 := congrArg List.length hrb
              rw [rb_length, xb_length b k hfb, ← hr.n_eq] at h1
              omega
            have hkb : (0 : Int) ≤ k ∧ (k : Int) ≤ 8 * (f : Int) ∧ (f : Int) ≤ 500 := by omega
            clear hpos hnone hrb hle
            go_wp2_with fail
            refine (rdrLeft_any _ _ _ _ _ _ _ _ hr (by omega)).mono ?_
            rintro e w9 ⟨rfl, q9, rfl⟩
            rw [hlf.out]
            go_wp2
            go_ret
            exact ⟨rfl, below_drewN hbw q9⟩
  · have h0 : (checkOf l most == 0) = false := by simpa using hck
    obtain ⟨E, hE⟩ : ∃ E, checkOf l most = E := ⟨_, rfl⟩
    have HE := Lib.hid hE
    have hck2 := Lib.hid hck
    rw [hE] at h0
    clear hE hck
    go_wp2_with fail
    refine (build_no _ _ _ _ _ l most hown.rd (by omega) hck2.out).mono ?_
    rintro e w3 ⟨rfl, rfl⟩
    rw [HE.out]
    go_wp2_with fail
    refine (answers6_any _).mono ?_
    rintro e w4 ⟨rfl, hb4⟩
    have hbw4 := hb2.trans (hb4.mono hb2.size)
    go_wp2_with fail
    refine (rcheck_any _ _ _ _ _ most _ (R.below hbw4) (by omega)).mono ?_
    rintro e w5 ⟨rfl, rfl⟩
    rw [HE.out]
    go_wp2
    go_ret
    exact ⟨rfl, hbw4⟩
end Go.Proofs.Ytjkmejcglhnnaaa
