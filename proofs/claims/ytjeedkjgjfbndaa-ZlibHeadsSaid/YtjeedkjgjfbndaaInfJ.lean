/-
  The walk of the decoder's token.
-/
import Derived.Test.YtjeedkjgjfbndaaInfI
namespace Go.Proofs.Ytjeedkjgjfbndaa
open Go.RowKit
set_option linter.unusedVariables false
section
variable {w w' w0 w2 : World} {b0 g : Nat} {c c0 : Nat → Nat} {M M' : DM} {S S' : DS} {s t t' : IS} {b : List Int} {v : Int}
set_option maxRecDepth 100000 in
set_option maxHeartbeats 4000000 in
theorem dtoken_any (h : InfS w0 c0 w b0 g M S) (hL : Live M S t) (hO : t.Ok) (hst : t.st = 6) (hlo : M.out.length ≤ 10000000000) (hmost : (t.rem : Int) ≤ 4611686018427387904) :
    Calls Try.prog 31 #[.pointer (some ⟨g, 0, none⟩)] w (StepPost w0 c0 b0 g M t) := by
  obtain ⟨c, hM, hD⟩ := h
  have hb1 : Below w.heap.size w (w.alloc (.cells #[.slice M.Ai M.ni M.ci, .int .i64 (M.a : Nat)] 44)).drew := ((Below.refl _ w).alloc (Nat.le_refl _) _).drew
  have hM1 := hM.keeps hb1
  have hD1 := hD.step (c' := c) hM.lo (fun k hk => (hM.cb k hk).1) (Chg.of_below hb1) (fun _ _ => rfl)
  have h1 := hM1.refl
  obtain ⟨t0, B, gt, hp, htab, hBw, hl288, hsep⟩ := h1.tabL (hL.lt (.inl hst))
  have hbx : c w.heap.size = 0 := by
    by_cases e : c w.heap.size = 0
    · exact e
    · have := (hM.cb _ e).2; omega
  have hbgs : M.gi < w.heap.size := hM.rdr.cell.lt
  have hgl : g < w.heap.size := hM.cell.lt
  have hnx := next_any _ t0 B gt b0 M.gi M.ni M.ci M.a M.Ai t.lt M.B htab hl288 hM1.rdr (Nat.le_trans hM.bB (by omega)) hBw hsep
  unfold NextPost at hnx
  have hb := hL.x
  rw [hb] at hnx
  have hstep : Hid (t.step = t.token) := tok_step hst
  unfold IS.token at hstep
  obtain ⟨K, hK⟩ : ∃ K, (nextOf t.lt t.x).1 = K := ⟨_, rfl⟩
  obtain ⟨n, hn⟩ : ∃ n, (nextOf t.lt t.x).2.1 = n := ⟨_, rfl⟩
  obtain ⟨E, hE⟩ : ∃ E, (nextOf t.lt t.x).2.2 = E := ⟨_, rfl⟩
  have hnone : Hid (E ≠ 0 → n = 0) := fun h => by rw [← hn]; exact (nextOf_none (by rw [hE]; exact h)).2
  have herr : Hid (E = 0 ∨ E = 3 ∨ E = 5) := by have := nextOf_err t.lt t.x; rw [hE] at this; exact this
  have hsym : Hid (E = 0 → 0 ≤ K ∧ K < 288 ∧ n ≤ t.x.length) := fun h => by
    obtain ⟨k2, n2, e1, e2, e3, e4, e5⟩ := sym_read (l := t.lt) (x := t.x) hO.bit (by rw [hE, h]; simp)
    rw [e1] at hK hn
    simp at hK hn
    omega
  rw [hK, hn, hE] at hnx hstep
  have HNX := Lib.hid hnx
  have k12 := hM.cell.cell (i := 13) (by omega)
  rw [show dF M S 13 = .pointer (some ⟨gt, 0, none⟩) from congrArg Value.pointer hp] at k12
  have k0 := hM.cell.cell (i := 0) (by omega)
  rw [show dF M S 0 = .pointer (some ⟨M.gi, 0, none⟩) from rfl] at k0
  have r0 := hM.rdr.cell.cell (i := 0) (by omega)
  have r1 := hM.rdr.cell.cell (i := 1) (by omega)
  rw [show rf M.Ai M.ni M.ci M.a 0 = .slice M.Ai M.ni M.ci from rfl] at r0
  rw [show rf M.Ai M.ni M.ci M.a 1 = .int .i64 (M.a : Nat) from rfl] at r1
  have HB := Lib.hid hb
  have HHP := Lib.hid hp
  have HST := Lib.hid hst
  have HBX := Lib.hid hbx
  clear hnx hK hn hE hp hb hst htab hBw hl288 hsep h1 hbx hb1
  go_enter Try.func31, Try.ntmps31
  go_wp2_with fail
  go_cut [4, 5] (fun s4 s5 wx => s4 = .int .i64 K ∧ s5 = .int .i64 E ∧ Rdr wx b0 M.gi M.Ai M.ni M.ci M.B (M.a + n) ∧ Chg (w.alloc (.cells #[.slice M.Ai M.ni M.ci, .int .i64 (M.a : Nat)] 44)).drew wx (fun k => k = M.gi))
  case first =>
    go_region_law
      ((go_simp; go_at_call 42; (refine HNX.out.mono ?_))
       rintro e w5 ⟨rfl, hr5, hc5⟩)
    all_goals
      go_wp2_with fail
      go_meet
      exact ⟨rfl, rfl, hr5, hc5⟩
  case rest =>
    obtain ⟨rfl, rfl, hr5, hc5⟩ := hcut
    have h5 := hM1.refl.moved hc5 hr5
    have x0 : wc.cell? ⟨w.heap.size, 0, none⟩ = some (.slice M.Ai M.ni M.ci) := by rw [hc5.cell (p := ⟨w.heap.size, 0, none⟩) (by simp) (by show ¬ w.heap.size = M.gi; omega)]; simp
    have x1 : wc.cell? ⟨w.heap.size, 1, none⟩ = some (.int .i64 (M.a : Nat)) := by rw [hc5.cell (p := ⟨w.heap.size, 1, none⟩) (by simp) (by show ¬ w.heap.size = M.gi; omega)]; simp
    have hrb : Hid (rb M.B (M.a + n) = t.x.drop n) := by show _ = _; rw [← rb_drop, HB.out]
    have hbig := hM.bB
    have hrm := hL.rem
    clear hr5
    by_cases hE0 : E = 0
    · subst hE0
      obtain ⟨hK0, hK19, hnx⟩ := hsym.out rfl
      have hst1 := Lib.hid (hstep.out.trans (if_neg (by decide)))
      clear hnone herr hsym hstep HNX
      by_cases hK256 : K < 256
      · have hs := Lib.hid (hst1.out.trans (if_pos hK256))
        unfold IS.emit at hs
        have hRM : Hid (S.most = t.rem) := hrm
        have hlit := RdI.lit .u8 wc [K] 5
        have hb6 : Below wc.heap.size wc (wc.alloc (.cells ([K].map (Value.int .u8)).toArray 5)) := (Below.refl _ wc).alloc (Nat.le_refl _) _
        have h6 := h5.keeps hb6
        have hfl : Hid (∀ k, foot M.Aw M.gw k → k < wc.heap.size) := fun k hk => (h5.win.foot_lo hk).2
        obtain ⟨-, k1, -⟩ := h6.cells
        rw [show ([K].map (Value.int .u8)).toArray = #[Value.int .u8 K] from rfl] at k1
        have hadd := winAdd_any _ _ _ _ _ _ _ 1 _ _ _ _ h6.win hlit (by simp) (by simp)
        have HADD := Lib.hid hadd
        clear hst1 hrm hadd hb6
        go_wp2_with fail
        refine HADD.out.mono ?_
        rintro e w7 ⟨A7, n7, c7, rfl, hw7, hc7, hf7⟩
        have h7 := h6.window hc7 hw7 (fun k hk => by
          rcases hk with hk | hk
          · exact .inl (.inl hk)
          · exact (hf7 k hk).imp (fun e => .inr e) id)
        have hr7 := hc7.rdI hlit (by simp) (fun _ ad hA hf => by
          injection hA with hA
          subst hA
          have := hfl.out _ hf
          simp at this)
        have hem := demit_any h7 _ 1 1 _ [K] hr7 (by have := hc7.size; simp at this; omega) (Nat.le_refl _) (by omega) hlo (by show ((S.most : Nat) : Int) ≤ _; rw [hRM.out]; exact hmost)
        unfold EmitPost at hem
        by_cases hz : t.rem = 0
        · rw [if_pos (show S.most < [K].length by rw [hRM.out, hz]; simp)] at hem
          have HEM := Lib.hid hem
          have HZ := Lib.hid hz
          clear hem hz
          go_wp2_with fail
          refine HEM.out.mono ?_
          rintro e w8 ⟨A8, n8, c8, rfl, h8⟩
          go_wp2_with fail
          go_ret
          have hs0 : t.step = ({ t with x := t.x.drop n, toks := t.toks ++ [Tok.mk K 0 0], all := t.all ++ [K].take t.rem, rem := t.rem - [K].length }, 6) := hs.out.trans (by rw [if_pos (by rw [HZ.out]; simp)])
          refine StepPost.bad (b := [K].take t.rem) hs0 (by decide) (by decide) (by decide) rfl (by rw [List.length_take]; simp; omega) (InfS.rebase hM1 hD1 h8) hL.err (by rw [hRM.out])
        · rw [if_neg (show ¬ S.most < [K].length by rw [hRM.out]; simp; omega)] at hem
          have HEM := Lib.hid hem
          have HZ : Hid ([K].take t.rem = [K]) := List.take_of_length_le (by simp; omega)
          have HZ2 : Hid (¬ t.rem < [K].length) := by show ¬ _; simp; omega
          clear hem hz
          go_wp2_with fail
          refine HEM.out.mono ?_
          rintro e w8 ⟨A8, n8, c8, rfl, h8⟩
          go_wp2_with fail
          go_ret
          have hs0 : t.step = ({ t with x := t.x.drop n, toks := t.toks ++ [Tok.mk K 0 0], all := t.all ++ [K].take t.rem, rem := t.rem - [K].length }, 0) := hs.out.trans (by rw [if_neg HZ2.out])
          refine StepPost.go (b := [K].take t.rem) hs0 rfl (by rw [HZ.out]; simp) (InfS.rebase hM1 hD1 h8) ⟨hrb.out, hL.st, hL.last, hL.left, hL.c0, hL.c1, hL.c2, hL.lens, fun e => by simp [HST.out] at e, fun _ => hL.lt (.inl HST.out), fun _ => hL.ds (.inl HST.out), fun e => by simp [HST.out] at e, ?_, ?_, hL.err⟩ (by rw [hRM.out])
          · show Tail (t.all ++ [K].take t.rem) _
            rw [HZ.out]
            exact hL.tail.add [K]
          · show S.most - [K].length = t.rem - [K].length
            rw [hRM.out]
      · have hst2 := Lib.hid (hst1.out.trans (if_neg hK256))
        clear hst1 hrm
        by_cases hK2 : K = 256
        · have hs := Lib.hid (hst2.out.trans (if_pos hK2))
          have hov := dover_any h5
          have HOV := Lib.hid hov
          clear hst2 hov
          subst hK2
          go_wp2_with fail
          refine HOV.out.mono ?_
          rintro e w6 ⟨rfl, h6⟩
          go_wp2_with fail
          go_ret
          have hova : ({ t with x := t.x.drop n } : IS).over.all = t.all := by unfold IS.over; split <;> rfl
          refine StepPost.go0 hs.out hova (InfS.rebase hM1 hD1 h6) ?_ (by split <;> rfl)
          have hle5 := h5.rdr.le
          cases hla : S.last with
          | true =>
            have hla2 : t.last = true := by rw [← hL.last]; exact hla
            unfold IS.over
            rw [if_pos (show ({ t with x := t.x.drop n } : IS).last = true from hla2), if_pos rfl, if_pos rfl]
            exact ⟨by show rb M.B ((M.a + n + 7) / 8 * 8) = algn (t.x.drop n); rw [rb_algn hle5, hrb.out], rfl, by show true = t.last; rw [hla2], hL.left, hL.c0, hL.c1, hL.c2, hL.lens, fun e => by simp at e, fun e => by simp at e, fun e => by simp at e, fun e => by simp at e, hL.tail, hL.rem, hL.err⟩
          | false =>
            have hla2 : t.last = false := by rw [← hL.last]; exact hla
            unfold IS.over
            rw [if_neg (show ¬ ({ t with x := t.x.drop n } : IS).last = true by show ¬ t.last = true; rw [hla2]; decide), if_neg (by decide), if_neg (by decide)]
            exact ⟨hrb.out, rfl, by show false = t.last; rw [hla2], hL.left, hL.c0, hL.c1, hL.c2, hL.lens, fun e => by simp at e, fun e => by simp at e, fun e => by simp at e, fun e => by simp at e, hL.tail, hL.rem, hL.err⟩
        · have hst3 := Lib.hid (hst2.out.trans (if_neg hK2))
          have hKf : (K == 256) = false := by simpa using hK2
          clear hst2
          by_cases hK3 : 285 < K
          · have hs := Lib.hid (hst3.out.trans (if_pos hK3))
            have hlb := lenBase_none K (.inr hK3) (by omega) wc
            have HLB := Lib.hid hlb
            have h6 := InfS.rebase hM1 hD1 h5
            clear hst3 hlb hK2
            go_wp2_with fail
            refine HLB.out.mono ?_
            rintro e w6 ⟨rfl, rfl⟩
            go_wp2_with fail
            go_ret
            exact StepPost.bad0 hs.out (by decide) (by decide) (by decide) rfl h6 hL.err rfl
          · have hst4 := Lib.hid (hst3.out.trans (if_neg hK3))
            obtain ⟨j, hj⟩ : ∃ j, (K - 257).toNat = j := ⟨_, rfl⟩
            have hj29 : j < 29 := by omega
            have hlb := lenBase_code j hj29 K (by omega) wc
            have HLB := Lib.hid hlb
            rw [hj] at hst4
            have hbd := lB_bd j hj29
            obtain ⟨LB, hLB⟩ : ∃ LB, lB j = LB := ⟨_, rfl⟩
            obtain ⟨LE, hLE⟩ : ∃ LE, lE j = LE := ⟨_, rfl⟩
            rw [hLB, hLE] at HLB hst4 hbd
            have hLI : (0 : Int) ≤ LB ∧ (LB : Int) ≤ 258 ∧ (0 : Int) ≤ LE ∧ (LE : Int) ≤ 5 := by omega
            have hrbx : rb ({ M with a := M.a + n } : DM).B ({ M with a := M.a + n } : DM).a = t.x.drop n := hrb.out
            clear hst3 hlb hj hj29 hLB hLE hbd hK2
            by_cases hlk : (t.x.drop n).length < LE
            · have hs := Lib.hid (hst4.out.trans (if_pos hlk))
              have hex : Calls Try.prog 44 #[.pointer (some ⟨g, 0, none⟩), .agg #[.slice M.Ai M.ni M.ci, .int .i64 M.a], .int .i64 LB, .int .i64 LE] wc fun e w' => e = .returned (.tuple #[.int .i64 0, .int .i64 5]) ∧ InfS (w.alloc (.cells #[.slice M.Ai M.ni M.ci, .int .i64 (M.a : Nat)] 44)).drew c w' b0 g M S := dextra_lack h5 M.a hM.rdr.le LB LE (by rw [hrbx]; exact hlk)
              have HEX := Lib.hid hex
              clear hlk hst4 hex hrbx
              go_wp2_with fail
              refine HLB.out.mono ?_
              rintro e w6 ⟨rfl, rfl⟩
              go_wp2_with fail
              refine HEX.out.mono ?_
              rintro e w7 ⟨rfl, h7⟩
              have z15 := h7.cell.frozen' (i := 15) (by omega)
              have k15 := h7.cell.cell (i := 15) (by omega)
              have h8 := InfS.rebase hM1 hD1 (h7.put (i := 15) (by omega) (.int .i64 0) { S with len := 0 } (all16 rfl rfl rfl rfl rfl rfl rfl rfl rfl rfl rfl rfl rfl rfl rfl rfl))
              go_wp2_with fail
              go_ret
              exact StepPost.lack (by rw [hs.out]) h8 ⟨hL.x, hL.st, hL.last, hL.left, hL.c0, hL.c1, hL.c2, hL.lens, hL.hd, hL.lt, hL.ds, fun e => by simp [HST.out] at e, hL.tail, hL.rem, hL.err⟩ rfl
            · have hs := Lib.hid (hst4.out.trans (if_neg hlk))
              obtain ⟨L, hLL⟩ : ∃ L, LB + num (t.x.drop n) LE = L := ⟨_, rfl⟩
              have hex := dextra_ok h5 (.agg #[.slice M.Ai M.ni M.ci, .int .i64 M.a]) ⟨_, _, _, _, rfl⟩ LB (by omega) LE (by omega) (by rw [hrbx]; omega) (L : Int) (by rw [hrbx, ← hLL]; simp)
              rw [hLL] at hs
              have HEX := Lib.hid hex
              have hrb2 : Hid (rb M.B (M.a + n + LE) = (t.x.drop n).drop LE) := by show _ = _; rw [← rb_drop, hrb.out]
              have hL0 : (0 : Int) ≤ L := by omega
              clear hlk hst4 hex hrbx hLL
              go_wp2_with fail
              refine HLB.out.mono ?_
              rintro e w6 ⟨rfl, rfl⟩
              go_wp2_with fail
              refine HEX.out.mono ?_
              rintro e w7 ⟨rfl, h7⟩
              have z15 := h7.cell.frozen' (i := 15) (by omega)
              have k15 := h7.cell.cell (i := 15) (by omega)
              have z5 := h7.cell.frozen' (i := 5) (by omega)
              have k5 := h7.cell.cell (i := 5) (by omega)
              have h8 := InfS.rebase hM1 hD1 ((h7.put (i := 15) (by omega) (.int .i64 L) { S with len := L } (all16 rfl rfl rfl rfl rfl rfl rfl rfl rfl rfl rfl rfl rfl rfl rfl rfl)).put (i := 5) (by omega) (.int .i64 7) { S with len := L, st := 7 } (all16 rfl rfl rfl rfl rfl rfl rfl rfl rfl rfl rfl rfl rfl rfl rfl rfl))
              go_wp2_with fail
              go_ret
              exact StepPost.go0 hs.out rfl h8 ⟨hrb2.out, rfl, hL.last, hL.left, hL.c0, hL.c1, hL.c2, hL.lens, fun e => by simp at e, fun _ => hL.lt (.inl HST.out), fun _ => hL.ds (.inl HST.out), fun _ => rfl, hL.tail, hL.rem, hL.err⟩ rfl
    · have hE1 : (E == 0) = false := by simpa using hE0
      have hn0 := hnone.out hE0
      have hs := Lib.hid (hstep.out.trans (if_pos hE0))
      have hee := Lib.hid (herr.out.resolve_left hE0)
      clear hnone herr hsym hstep HNX hrm
      subst hn0
      have h6 := InfS.rebase hM1 hD1 h5
      go_wp2_with fail
      go_ret
      rcases hee.out with he | he
      · subst he
        exact StepPost.bad0 hs.out (by decide) (by decide) (by decide) rfl h6 hL.err rfl
      · subst he
        exact StepPost.lack (by rw [hs.out]) h6 hL rfl
end
end Go.Proofs.Ytjeedkjgjfbndaa
