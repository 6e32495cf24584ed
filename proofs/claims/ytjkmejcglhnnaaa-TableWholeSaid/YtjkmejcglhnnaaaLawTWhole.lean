/-
  The walk of the statement TableWhole.
-/
import Derived.Test.YtjkmejcglhnnaaaProg
import Derived.Test.YtjkmejcglhnnaaaAns6
import Derived.Test.YtjkmejcglhnnaaaTBackP
import Derived.Test.YtjkmejcglhnnaaaTabW
import Derived.Test.YtjkmejcglhnnaaaRCheck
import Derived.Test.YtjkmejcglhnnaaaRefB
import Derived.Test.YtjkmejcglhnnaaaSame
import Derived.Test.YtjkmejcglhnnaaaOpenC
import Derived.Deep.RegionHeld3
namespace Go.Proofs.Ytjkmejcglhnnaaa
open Go.RowKit
set_option linter.unusedVariables false

/-- a writer and a reader side by side: what was read has been written -/
def WSt (wB : World) (b0 gw gr : Nat) (L b : List Int) (wr : World) : Prop :=
  ∃ (nw cw n c : Nat) (Aw A : Option Addr), Wtr wr b0 gw Aw nw cw L ∧ Rdr wr b0 gr A n c b L.length ∧ (∀ k, foot Aw gw k → ¬ foot A gr k) ∧ Below b0 wB wr ∧ L ++ rb b L.length = bts b
def WholeRel (wB : World) (b0 gw gr : Nat) (b : List Int) (i : Value) (wr : World) : Prop :=
  ∃ (k : Nat) (L : List Int), i = .int .i64 k ∧ k ≤ L.length ∧ WSt wB b0 gw gr L b wr

set_option maxRecDepth 100000 in
set_option maxHeartbeats 8000000 in
theorem tableWhole_law (A : Option Addr) (n c : Nat) (l : List Int) (A' : Option Addr) (n' c' : Nat) (b : List Int) (w : World) (T : InC .i64 w A n c l) (T' : InC .u8 w A' n' c' b) :
    Calls Try.prog 6 #[.slice A n c, .slice A' n' c'] w fun e w' => e = .returned (.bool true) ∧ Below w.heap.size w w' := by
  obtain ⟨R, m0, f0, lc0, cm0⟩ := T
  obtain ⟨R', m0', f0', lc', cm0'⟩ := T'
  have hn : (n : Int) ≤ 9223372036854775807 := by unfold maxLen at m0; omega
  have hn' : (n' : Int) ≤ 9223372036854775807 := by unfold maxLen at m0'; omega
  have hby : ∀ x ∈ b, 0 ≤ x ∧ x < 256 := fun x hx => bounds_u8 (f0' x hx)
  clear m0 f0 cm0 m0' f0' cm0'
  by_cases h288 : 288 < (n : Int)
  · go_enter Try.func6, Try.ntmps6
    go_wp2_with fail
    refine (answers6_any _).mono ?_
    rintro e w4 ⟨rfl, hb4⟩
    go_wp2
    go_ret
    exact ⟨rfl, hb4⟩
  by_cases h300 : 300 < (n' : Int)
  · go_enter Try.func6, Try.ntmps6
    go_wp2_with fail
    refine (answers6_any _).mono ?_
    rintro e w4 ⟨rfl, hb4⟩
    go_wp2
    go_ret
    exact ⟨rfl, hb4⟩
  have hn1 : (n : Int) ≤ 288 ∧ (0 : Int) ≤ n := by omega
  have hn1' : (n' : Int) ≤ 300 ∧ (0 : Int) ≤ n' := by omega
  by_cases hck : checkOf l 15 = 0
  · obtain ⟨hl288, hin, hS⟩ := check_ok' hck
    have HCK := Lib.hid hck
    have HN := Lib.hid R.1
    have HN' := Lib.hid R'.1
    clear hck
    obtain ⟨sm, hsm⟩ : ∃ sm : Int, ((sumTo l n : Nat) : Int) = sm := ⟨_, rfl⟩
    have HSM := Lib.hid hsm
    clear hsm
    by_cases hw : sm = 32768
    · have hsum : sumTo l l.length = 32768 := by have := HSM.out; have := HN.out; rw [← HN.out]; omega
      have HSUM := Lib.hid hsum
      subst hw
      clear hS hsum
      go_enter Try.func6, Try.ntmps6
      go_wp2_with fail
      refine (rcheck_any _ _ _ _ _ 15 _ R (by omega)).mono ?_
      rintro e w1 ⟨rfl, rfl⟩
      rw [HCK.out]
      go_wp2_with fail
      refine (rsum_any _ _ _ _ _ _ R (by omega)).mono ?_
      rintro e w1 ⟨rfl, rfl⟩
      rw [HSM.out]
      go_wp2_with fail
      refine (build_ok _ _ _ _ _ l 15 R (Nat.le_refl _) (by omega) HCK.out).mono ?_
      rintro e w3 ⟨gt, rfl, ht3, hb3⟩
      go_wp2_with fail
      refine (rdrNew_any _).mono ?_
      rintro e w4 ⟨gr, rfl, hr4, hb4⟩
      go_wp2_with fail
      refine (wtrNew_any _).mono ?_
      rintro e w5 ⟨gw, rfl, hw5, hb5⟩
      have hr5 := hr4.keeps hb5
      have hb35 := hb4.trans (hb5.mono hb4.size)
      have hbw5 := hb3.trans (hb35.mono hb3.size)
      go_wp2_with fail
      refine (rdrFeed_any _ _ _ _ _ _ _ _ _ _ _ _ b hr5 (R'.below hbw5) hbw5.size hby (by have := HN'.out; simp; omega)).mono ?_
      rintro e w6 ⟨A6, n6, c6, rfl, hr6, hg6, hA6⟩
      rw [show ([] : List Int).drop (0 / 8) ++ b = b from rfl, show 0 % 8 = 0 from rfl] at hr6
      have hgrl := hr4.cell.lt
      have hgr := hr4.lo
      have hgw := hw5.lo
      have hgwl := hw5.cell.lt
      have hw6 := hw5.chg hg6 (fun q hq h => by
        rcases hq with hq | hq
        · omega
        · simp [blkOf] at hq)
      have hb36 := hb35.trans (hg6.below (fun q hq => hq ▸ hgr) hb35.size)
      have hst0 : WSt w3 w3.heap.size gw gr [] b w6 := ⟨0, 0, n6, c6, none, A6, ⟨hw6.cell, by have := hb4.size; omega, OwnI.nil_, hw6.apart, hw6.bit⟩, hr6, fun k hk h => by
        rcases hk with hk | hk
        · rcases h with h | h
          · omega
          · have := hA6 k h; omega
        · simp [blkOf] at hk, hb36, rfl⟩
      clear hr4 hb4 hw5 hb5 hr5 hb35 hbw5 hr6 hg6 hA6 hgrl hgr hgw hgwl hw6
      go_wp2_with fail
      refine (answers6_any _).mono ?_
      rintro e w7 ⟨rfl, hb7⟩
      have hst : WSt w3 w3.heap.size gw gr [] b w7 := by
        obtain ⟨nw, cw, n, c, Aw, A, h1, h2, h3, h4, h5⟩ := hst0
        exact ⟨nw, cw, n, c, Aw, A, h1.keeps hb7, h2.keeps hb7, h3, h4.trans (hb7.mono h4.size), h5⟩
      clear hst0 hb36 hb7
      have HIN := Lib.hid hin
      clear hin
      go_wp2_with fail
      go_loopw [9] (WholeRel w3 w3.heap.size gw gr b) (fun i _ => 8 * n' + 1 - (intOf i).toNat)
      case atStart => exact ⟨0, [], rfl, Nat.le_refl _, hst⟩
      case round =>
        clear hst
        obtain ⟨k, L, rfl, hkL, nw, cw, nr, cr, Aw, Ar, hw, hr, hd, hb, hE⟩ := hrel
        have hbw := hb3.trans (hb.mono hb3.size)
        have htt := ht3.chg (S := fun _ => False) (Chg.of_below hb) (Nat.le_refl _) (fun _ _ _ => id)
        have hlen := congrArg List.length hE
        rw [List.length_append, bts_length, ← HN'.out] at hlen
        obtain ⟨x, hx⟩ : ∃ x, rb b L.length = x := ⟨_, rfl⟩
        have hxb : Bit x := by rw [← hx]; exact Bit.rb b _
        rw [hx] at hE hlen
        have hbl : b.length ≤ 300 := by have := HN'.out; omega
        have HX := Lib.hid hx
        clear hx
        go_wp2_with fail
        refine (next_any _ _ _ _ _ _ _ _ _ _ _ _ htt hl288 hr (by omega) hb.size (fun q h1 h2 => by have := hr.lo; omega)).mono ?_
        rintro e w8 ⟨rfl, hr8, hg8⟩
        rw [HX.out] at hr8 ⊢
        have hw8 := hw.chg hg8 (fun q hq e => hd q hq (.inl e))
        have hb8 := hb.trans (hg8.below (fun q hq => hq ▸ hr.lo) hb.size)
        have htt8 := ht3.chg (S := fun _ => False) (Chg.of_below hb8) (Nat.le_refl _) (fun _ _ _ => id)
        rcases whole_next (l := l) hxb HSUM.out with h0 | ⟨h5, hlt15⟩
        · obtain ⟨s, N, hnx, hs1, hs2, hN1, hN15, hNx, hsym⟩ := next_sym hxb h0
          have HNX := Lib.hid hnx
          have h1' : 1 ≤ ix l s := by rw [hs2]; omega
          have h15' : ix l s ≤ 15 := by rw [hs2]; omega
          rw [hnx] at hr8 ⊢
          dsimp only at hr8 ⊢
          have hkI : (k : Int) ≤ 8 * (n' : Int) ∧ (0 : Int) ≤ k := by omega
          have hLlen : L.length ≤ 4000000000000 := by omega
          clear hnx h0
          go_wp2_with fail
          refine (twrite_ok _ _ _ _ _ _ _ _ _ l _ s htt8 hl288 hw8 hLlen hs1 h1' h15').mono ?_
          rintro e w9 ⟨Aw9, nw9, cw9, rfl, hw9, hg9, hf9⟩
          have hb9 := hb8.trans (hg9.below (fun q hq => (hw8.foot_lo hq).1) hb8.size)
          have hr9 := hr8.chg hg9 (fun q hq e => hd q e hq)
          have hst9 : WSt w3 w3.heap.size gw gr (L ++ symBits l s) b w9 := by
            have hll : (L ++ symBits l s).length = L.length + N := by rw [List.length_append, symBits_length, hs2]; rfl
            refine ⟨nw9, cw9, nr, cr, Aw9, Ar, hw9, by rw [hll]; exact hr9, fun q hq h => ?_, hb9, ?_⟩
            · rcases hq with hq | hq
              · exact hd q (.inl hq) h
              · rcases hf9 q hq with h2 | h2
                · exact hd q (.inr h2) h
                · have := (hr8.foot_lo h).2; omega
            · rw [hll, ← rb_drop, HX.out, ← hsym, List.append_assoc, List.take_append_drop, hE]
          have hk2 : k + 1 ≤ (L ++ symBits l s).length := by rw [List.length_append, symBits_length, hs2]; simp; omega
          clear hw9 hg9 hf9 hb9 hr9
          go_wp2_with fail
          go_roundw
          case rel => exact ⟨k + 1, _, by go_num, hk2, hst9⟩
          case measure => simp [intOf]; omega
        · have hnn := nextOf_none (l := l) (x := x) (by omega)
          rw [hnn.2, Nat.add_zero] at hr8
          rw [h5, hnn.1]
          clear h5 hnn htt htt8 hr hw hb
          have hLb : L.length ≤ 2400 := by omega
          have hbit : Bit L := hw8.bit
          obtain ⟨N, hN⟩ : ∃ N, L.length = N := ⟨_, rfl⟩
          obtain ⟨X, hX⟩ : ∃ X, x.length = X := ⟨_, rfl⟩
          rw [hN, hX] at hlen
          rw [hX] at hlt15
          have hleft : Hid (8 * nr - L.length = X) := by show _ = _; have := hr8.n_eq; have := HN'.out; omega
          have hNX : (0 : Int) ≤ N ∧ (N : Int) ≤ 2400 ∧ (0 : Int) ≤ X ∧ (X : Int) < 15 ∧ (N : Int) + (X : Int) = 8 * (n' : Int) := by omega
          have HNL := Lib.hid hN
          have hLE : Hid (bts (byt (evn L)) = evn L) := by show _ = _; have h1 := bts_byt hbit.evn; rwa [rest_none (evn_even L), List.append_nil] at h1
          have hLT : Hid ((evn L).take N = L) := by show _ = _; unfold evn; rw [← hN, List.take_left]
          have hBT : Hid ((bts b).take N = L) := by show _ = _; rw [← hE, ← hN, List.take_left]
          have hNe : N ≤ (evn L).length := by unfold evn; rw [List.length_append]; omega
          have hNb : N ≤ 8 * n' := by omega
          clear hlen hX hlt15 hN hE
          go_wp2_with fail
          refine (wtrBits_any _ _ _ _ _ _ _ hw8 (by omega)).mono ?_
          rintro e w9 ⟨rfl, q9, rfl⟩
          rw [HNL.out]
          have hw9 : Wtr (w8.drewN q9) _ _ _ _ _ _ := hw8.keeps (below_drewN (Below.refl _ w8) q9)
          have hr9 := hr8.drewN q9
          have hb9 := below_drewN hb8 q9
          go_wp2_with fail
          refine (rdrLeft_any _ _ _ _ _ _ _ _ hr9 (by omega)).mono ?_
          rintro e w10 ⟨rfl, q10, rfl⟩
          rw [hleft.out]
          have hw10 : Wtr (w8.drewN (q9 + q10)) _ _ _ _ _ _ := hw8.keeps (below_drewN (Below.refl _ w8) (q9 + q10))
          have hb10 := below_drewN hb8 (q9 + q10)
          clear hr8 hr9 hw8 hw9 hb8 hb9
          go_wp2_with fail
          refine (wtrAlign_any _ _ _ _ _ _ _ hw10 (by omega)).mono ?_
          rintro e w11 ⟨Aw11, nw11, cw11, rfl, hw11, hg11, hf11⟩
          have hb11 := hb10.trans (hg11.below (fun q hq => (hw10.foot_lo hq).1) hb10.size)
          clear hw10 hg11 hf11 hb10
          go_wp2_with fail
          refine (wtrTake_any _ _ _ _ _ _ _ hw11).mono ?_
          rintro e w12 ⟨rfl, hob12, hw12, hg12⟩
          have hb12 := hb11.trans (hg12.below (fun q hq => hq ▸ hw11.lo) hb11.size)
          have hnb12 : (nw11 : Int) ≤ 600 := by have := hob12.1; rw [byt_length, evn_length] at this; omega
          clear hw12 hg12 hb11
          go_wp2_with fail
          refine (bits_any _ _ _ _ _ _ hob12.rd (Nat.le_refl _) (byt_bd hbit.evn) (by omega)).mono ?_
          rintro e w13 ⟨A13, n13, c13, rfl, ho13, hb13⟩
          have hbw13 := hb3.trans ((hb12.trans (hb13.mono hb12.size)).mono hb3.size)
          rw [hLE.out] at ho13
          have hrd13 := ho13.rd
          have hn13 : N ≤ n13 := by rw [ho13.1]; exact hNe
          have hc13 := ho13.2.capLe
          have R13 := (R'.below hbw13).more hbw13.size
          obtain ⟨i1, hi, hz0, hz1, hz2⟩ := info_parts fbyte_info
          have hsl := run_slice_to (P := Try.prog) 23 5 Try.underlying23 hi hz1 A13 n13 c13 (j := N) (by omega)
          have HM : Hid (∀ (A20 : Option Addr) (n20 c20 : Nat), N ≤ c20 → ∀ W : World, (Instr.slice 23 (.slice A20 n20 c20) none (some (.int .i64 (N : Int))) none).run Try.prog W = .ok (.slice A20 N c20) W) :=
            fun A20 n20 c20 h W => run_slice_to (P := Try.prog) 23 5 Try.underlying23 hi hz1 A20 n20 c20 h W
          clear hi hz0 hz1 hz2 hob12 hb12 ho13
          have HH := Below.refl w13.heap.size w13
          have hrL : RdI .u8 w13 w13.heap.size A13 N L := by have := hrd13.pre hn13; rwa [hLT.out] at this
          have hbb : N ≤ (bts b).length := by rw [bts_length, ← HN'.out]; exact hNb
          go_wp2_with fail
          go_region_held3 (fun w' => Below w13.heap.size w13 w')
            (first | exact hh8 | exact hh7 | exact HH | exact hh8.drew | exact hh7.drew | exact HH.drew)
            (first
              | (go_at_call 11
                 refine (bits_any _ _ _ _ _ b (R13.below (by first | exact HH | exact HH.drew)) (by simp) hby (by omega)).mono ?_
                 rintro e w20 ⟨A20, n20, c20, rfl, ho20, hb20⟩
                 have hh7 : Below w13.heap.size w13 w20 := by first | exact HH.drew.trans hb20 | exact HH.trans hb20
                 have hsl2 := HM.out A20 n20 c20 (Nat.le_trans (by rw [ho20.1]; exact hbb) ho20.2.capLe)
                 have hrR : RdI .u8 w20 w20.heap.size A20 N L := by have := ho20.rd.pre (j := N) (by rw [ho20.1]; exact hbb); rwa [hBT.out] at this)
              | (go_at_call 23
                 refine (same_any _ _ _ _ _ _ _ _ L L ((hrL.below hh7).more hh7.size) hrR (by omega) rfl).mono ?_
                 rintro e w21 ⟨rfl, q21, rfl⟩
                 have hh8 := below_drewN hh7 q21))
          all_goals
            go_wp2
            go_ret
            exact ⟨rfl, hbw13.trans (hh8.mono hbw13.size)⟩
    · have hw0 : (sm == 32768) = false := by simpa using hw
      clear hw hS
      go_enter Try.func6, Try.ntmps6
      go_wp2_with fail
      refine (rcheck_any _ _ _ _ _ 15 _ R (by omega)).mono ?_
      rintro e w1 ⟨rfl, rfl⟩
      rw [HCK.out]
      go_wp2_with fail
      refine (rsum_any _ _ _ _ _ _ R (by omega)).mono ?_
      rintro e w1 ⟨rfl, rfl⟩
      rw [HSM.out]
      go_wp2_with fail
      refine (answers6_any _).mono ?_
      rintro e w4 ⟨rfl, hb4⟩
      go_wp2
      go_ret
      exact ⟨rfl, hb4⟩
  · have h0 : (checkOf l 15 == 0) = false := by simpa using hck
    obtain ⟨E, hE⟩ : ∃ E, checkOf l 15 = E := ⟨_, rfl⟩
    have HE := Lib.hid hE
    rw [hE] at h0
    have h00 : ¬ E = 0 := by rw [← hE]; exact hck
    clear hE hck
    go_enter Try.func6, Try.ntmps6
    go_wp2_with fail
    refine (rcheck_any _ _ _ _ _ 15 _ R (by omega)).mono ?_
    rintro e w1 ⟨rfl, rfl⟩
    rw [HE.out]
    go_wp2_with fail
    refine (answers6_any _).mono ?_
    rintro e w4 ⟨rfl, hb4⟩
    go_wp2
    go_ret
    exact ⟨rfl, hb4⟩
end Go.Proofs.Ytjkmejcglhnnaaa
