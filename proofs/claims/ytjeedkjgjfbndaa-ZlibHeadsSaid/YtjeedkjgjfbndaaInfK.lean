/-
  The walk of the decoder's distance.
-/
import Derived.Test.YtjeedkjgjfbndaaInfI
namespace Go.Proofs.Ytjeedkjgjfbndaa
open Go.RowKit
set_option linter.unusedVariables false
section
variable {w w' w0 w2 : World} {b0 g : Nat} {c c0 : Nat → Nat} {M M' : DM} {S S' : DS} {s t t' : IS} {b : List Int} {v : Int}
set_option maxRecDepth 100000 in
set_option maxHeartbeats 4000000 in
theorem ddistance_any (h : InfS w0 c0 w b0 g M S) (hL : Live M S t) (hO : t.Ok) (hst : t.st = 7) (hlo : M.out.length ≤ 10000000000) (hmost : (t.rem : Int) ≤ 4611686018427387904) :
    Calls Try.prog 32 #[.pointer (some ⟨g, 0, none⟩)] w (StepPost w0 c0 b0 g M t) := by
  obtain ⟨c, hM, hD⟩ := h
  have hb1 : Below w.heap.size w (w.alloc (.cells #[.slice M.Ai M.ni M.ci, .int .i64 (M.a : Nat)] 44)).drew := ((Below.refl _ w).alloc (Nat.le_refl _) _).drew
  have hM1 := hM.keeps hb1
  have hD1 := hD.step (c' := c) hM.lo (fun k hk => (hM.cb k hk).1) (Chg.of_below hb1) (fun _ _ => rfl)
  have h1 := hM1.refl
  obtain ⟨t0, B, gt, hp, htab, hBw, hl288, hsep⟩ := h1.tabD (hL.ds (.inr hst))
  have hbx : c w.heap.size = 0 := by
    by_cases e : c w.heap.size = 0
    · exact e
    · have := (hM.cb _ e).2; omega
  have hbgs : M.gi < w.heap.size := hM.rdr.cell.lt
  have hgl : g < w.heap.size := hM.cell.lt
  have hnx := next_any _ t0 B gt b0 M.gi M.ni M.ci M.a M.Ai t.ds M.B htab hl288 hM1.rdr (Nat.le_trans hM.bB (by omega)) hBw hsep
  unfold NextPost at hnx
  have hb := hL.x
  rw [hb] at hnx
  have hstep : Hid (t.step = t.dist) := dist_step hst
  unfold IS.dist at hstep
  obtain ⟨K, hK⟩ : ∃ K, (nextOf t.ds t.x).1 = K := ⟨_, rfl⟩
  obtain ⟨n, hn⟩ : ∃ n, (nextOf t.ds t.x).2.1 = n := ⟨_, rfl⟩
  obtain ⟨E, hE⟩ : ∃ E, (nextOf t.ds t.x).2.2 = E := ⟨_, rfl⟩
  have hnone : Hid (E ≠ 0 → n = 0) := fun h => by rw [← hn]; exact (nextOf_none (by rw [hE]; exact h)).2
  have herr : Hid (E = 0 ∨ E = 3 ∨ E = 5) := by have := nextOf_err t.ds t.x; rw [hE] at this; exact this
  have hsym : Hid (E = 0 → 0 ≤ K ∧ K < 288 ∧ n ≤ t.x.length) := fun h => by
    obtain ⟨k2, n2, e1, e2, e3, e4, e5⟩ := sym_read (l := t.ds) (x := t.x) hO.bit (by rw [hE, h]; simp)
    rw [e1] at hK hn
    simp at hK hn
    omega
  rw [hK, hn, hE] at hnx hstep
  have HNX := Lib.hid hnx
  have k12 := hM.cell.cell (i := 14) (by omega)
  rw [show dF M S 14 = .pointer (some ⟨gt, 0, none⟩) from congrArg Value.pointer hp] at k12
  have k0 := hM.cell.cell (i := 0) (by omega)
  rw [show dF M S 0 = .pointer (some ⟨M.gi, 0, none⟩) from rfl] at k0
  have r0 := hM.rdr.cell.cell (i := 0) (by omega)
  have r1 := hM.rdr.cell.cell (i := 1) (by omega)
  rw [show rf M.Ai M.ni M.ci M.a 0 = .slice M.Ai M.ni M.ci from rfl] at r0
  rw [show rf M.Ai M.ni M.ci M.a 1 = .int .i64 (M.a : Nat) from rfl] at r1
  have HB := Lib.hid hb
  have HHP := Lib.hid hp
  have HST := Lib.hid hst
  have HBX := Lib.hid hbx
  clear hnx hK hn hE hp hb hst htab hBw hl288 hsep h1 hbx hb1
  go_enter Try.func32, Try.ntmps32
  go_wp2_with fail
  go_cut [4, 5] (fun s4 s5 wx => s4 = .int .i64 K ∧ s5 = .int .i64 E ∧ Rdr wx b0 M.gi M.Ai M.ni M.ci M.B (M.a + n) ∧ Chg (w.alloc (.cells #[.slice M.Ai M.ni M.ci, .int .i64 (M.a : Nat)] 44)).drew wx (fun k => k = M.gi))
  case first =>
    go_region_law
      ((go_simp; go_at_call 42; (refine HNX.out.mono ?_))
       rintro e w5 ⟨rfl, hr5, hc5⟩)
    all_goals
      go_wp2_with fail
      go_meet
      exact ⟨rfl, rfl, hr5, hc5⟩
  case rest =>
    obtain ⟨rfl, rfl, hr5, hc5⟩ := hcut
    have h5 := hM1.refl.moved hc5 hr5
    have x0 : wc.cell? ⟨w.heap.size, 0, none⟩ = some (.slice M.Ai M.ni M.ci) := by rw [hc5.cell (p := ⟨w.heap.size, 0, none⟩) (by simp) (by show ¬ w.heap.size = M.gi; omega)]; simp
    have x1 : wc.cell? ⟨w.heap.size, 1, none⟩ = some (.int .i64 (M.a : Nat)) := by rw [hc5.cell (p := ⟨w.heap.size, 1, none⟩) (by simp) (by show ¬ w.heap.size = M.gi; omega)]; simp
    have hrb : Hid (rb M.B (M.a + n) = t.x.drop n) := by show _ = _; rw [← rb_drop, HB.out]
    have hbig := hM.bB
    have hrm := hL.rem
    clear hr5
    by_cases hE0 : E = 0
    · subst hE0
      obtain ⟨hK0, hK19, hnx⟩ := hsym.out rfl
      have hst1 := Lib.hid (hstep.out.trans (if_neg (by decide)))
      clear hnone herr hsym hstep HNX
      obtain ⟨hl3, hl258⟩ := hO.h7 HST.out
      have hlenS := hL.len HST.out
      have HLEN := Lib.hid hlenS
      have HRM := Lib.hid hrm
      clear hrm hlenS
      by_cases hK3 : 29 < K
      · have hs := Lib.hid (hst1.out.trans (if_pos hK3))
        have hlb := distBase_none K (.inr (by omega)) wc
        have HLB := Lib.hid hlb
        have h6 := InfS.rebase hM1 hD1 h5
        clear hst1 hlb
        go_wp2_with fail
        refine HLB.out.mono ?_
        rintro e w6 ⟨rfl, rfl⟩
        go_wp2_with fail
        go_ret
        exact StepPost.bad0 hs.out (by decide) (by decide) (by decide) rfl h6 hL.err rfl
      · have hst4 := Lib.hid (hst1.out.trans (if_neg hK3))
        obtain ⟨j, hj⟩ : ∃ j, K.toNat = j := ⟨_, rfl⟩
        have hj29 : j < 30 := by omega
        have hlb := distBase_code j hj29 K (by omega) wc
        have HLB := Lib.hid hlb
        rw [hj] at hst4
        have hbd : dB j ≤ 32768 ∧ dE j ≤ 13 := by
          have : ∀ j, j < 30 → dB j ≤ 32768 ∧ dE j ≤ 13 := by decide +kernel
          exact this j hj29
        have hsumD := fun v => @dB_sum j v hj29
        obtain ⟨LB, hLB⟩ : ∃ LB, dB j = LB := ⟨_, rfl⟩
        obtain ⟨LE, hLE⟩ : ∃ LE, dE j = LE := ⟨_, rfl⟩
        rw [hLB, hLE] at HLB hst4 hbd hsumD
        have hLI : (0 : Int) ≤ LB ∧ (LB : Int) ≤ 32768 ∧ (0 : Int) ≤ LE ∧ (LE : Int) ≤ 13 := by omega
        have hrbx : rb ({ M with a := M.a + n } : DM).B ({ M with a := M.a + n } : DM).a = t.x.drop n := hrb.out
        clear hst1 hlb hj hj29 hLB hLE hbd
        by_cases hlk : (t.x.drop n).length < LE
        · have hs := Lib.hid (hst4.out.trans (if_pos hlk))
          have hex : Calls Try.prog 44 #[.pointer (some ⟨g, 0, none⟩), .agg #[.slice M.Ai M.ni M.ci, .int .i64 M.a], .int .i64 LB, .int .i64 LE] wc fun e w' => e = .returned (.tuple #[.int .i64 0, .int .i64 5]) ∧ InfS (w.alloc (.cells #[.slice M.Ai M.ni M.ci, .int .i64 (M.a : Nat)] 44)).drew c w' b0 g M S := dextra_lack h5 M.a hM.rdr.le LB LE (by rw [hrbx]; exact hlk)
          have HEX := Lib.hid hex
          clear hlk hst4 hex hrbx hsumD
          go_wp2_with fail
          refine HLB.out.mono ?_
          rintro e w6 ⟨rfl, rfl⟩
          go_wp2_with fail
          refine HEX.out.mono ?_
          rintro e w7 ⟨rfl, h7⟩
          have h8 := InfS.rebase hM1 hD1 h7
          go_wp2_with fail
          go_ret
          exact StepPost.lack (by rw [hs.out]) h8 hL rfl
        · have hst5 := Lib.hid (hst4.out.trans (if_neg hlk))
          unfold IS.text at hst5
          have hvlt := num_lt (hO.bit.drop_ n) LE
          have hD1 : Hid (DE b0 w0 c0 (w.alloc (.cells #[.slice M.Ai M.ni M.ci, .int .i64 (M.a : Nat)] 44)).drew c) := hD1
          have hDb := hsumD _ hvlt
          obtain ⟨D, hDD⟩ : ∃ D, LB + num (t.x.drop n) LE = D := ⟨_, rfl⟩
          have hex := dextra_ok h5 (.agg #[.slice M.Ai M.ni M.ci, .int .i64 M.a]) ⟨_, _, _, _, rfl⟩ LB (by omega) LE (by omega) (by rw [hrbx]; omega) (D : Int) (by rw [hrbx, ← hDD]; simp)
          rw [hDD] at hst5 hDb
          have HEX := Lib.hid hex
          have hrb2 : Hid (rb M.B (M.a + n + LE) = (t.x.drop n).drop LE) := by show _ = _; rw [← rb_drop, hrb.out]
          have hDI : (1 : Int) ≤ D ∧ (D : Int) ≤ 32768 := by omega
          have htl := hL.tail.len
          have hnw : M.nw = M.l.length := hM.win.n_eq
          have hlI : (3 : Int) ≤ (S.len : Int) ∧ (S.len : Int) ≤ 258 := by have := HLEN.out; omega
          have hNL : Hid (M.nw = M.l.length) := hnw
          clear hlk hst4 hex hrbx hDD hsumD hvlt hl3 hl258
          by_cases hfar : t.all.length < D
          · have hs := Lib.hid (hst5.out.trans (if_pos hfar))
            have HCP : Hid (∀ W, Win W b0 M.gw M.Aw M.nw M.cw M.l → Calls Try.prog 46 #[.pointer (some ⟨M.gw, 0, none⟩), .int .i64 S.len, .int .i64 D] W fun e w' => e = .returned (.tuple #[.slice none 0 0, .int .i64 3]) ∧ W = w') := fun W hW => by
              refine (copy_code W b0 M.gw M.nw M.cw M.Aw M.l hW S.len D ⟨by omega, by omega⟩ (.inr (by omega))).mono ?_
              rintro e w' ⟨rfl, hq⟩
              exact ⟨rfl, hq⟩
            clear hfar hst5 htl hnw
            go_wp2_with fail
            refine HLB.out.mono ?_
            rintro e w6 ⟨rfl, rfl⟩
            go_wp2_with fail
            refine HEX.out.mono ?_
            rintro e w7 ⟨rfl, h7⟩
            have k1 := h7.cell.cell (i := 1) (by omega)
            have k15 := h7.cell.cell (i := 15) (by omega)
            go_wp2_with fail
            go_region_law
              ((go_simp; go_at_call 46; (refine (HCP.out _ (by first | exact h7.win | exact h7.drew.win)).mono ?_))
               rintro e w8 ⟨rfl, rfl⟩)
            all_goals
              go_wp2_with fail
              go_ret
              exact StepPost.bad0 hs.out (by decide) (by decide) (by decide) rfl (InfS.rebase hM1 hD1.out h7.drew) hL.err rfl
          · have hs := Lib.hid (hst5.out.trans (if_neg hfar))
            unfold IS.emit at hs
            have hDl : D ≤ M.l.length := by omega
            have hag : Hid (cpL M.l D t.len = again t.all D t.len) := cpL_again' hL.tail (by omega) hDl
            have HCP : Hid (∀ W, Win W b0 M.gw M.Aw M.nw M.cw M.l → Calls Try.prog 46 #[.pointer (some ⟨M.gw, 0, none⟩), .int .i64 S.len, .int .i64 D] W (CopyPost W b0 M.gw M.Aw M.l D S.len)) := fun W hW =>
              copy_ok W b0 M.gw M.nw M.cw M.Aw M.l hW S.len D ⟨by omega, by omega⟩ ⟨by omega, by omega⟩
            clear hfar hst5 htl hnw hDl
            go_wp2_with fail
            refine HLB.out.mono ?_
            rintro e w6 ⟨rfl, rfl⟩
            go_wp2_with fail
            refine HEX.out.mono ?_
            rintro e w7 ⟨rfl, h7⟩
            have k1 := h7.cell.cell (i := 1) (by omega)
            have k15 := h7.cell.cell (i := 15) (by omega)
            go_wp2_with fail
            go_region_law
              ((go_simp; go_at_call 46; (refine (HCP.out _ (by first | exact h7.win | exact h7.drew.win)).mono ?_))
               rintro e w8 ⟨g9, A9, n9, c9, rfl, ho9, hw9, hnf9, hc9, hf9⟩)
            all_goals
              have h8 := InfS.window (M := { M with a := M.a + n + LE }) h7.drew hc9 hw9 (fun k hk => by
                rcases hk with hk | hk
                · exact .inl (.inl hk)
                · exact (hf9 k hk).imp (fun e => .inr e) id)
              have z5 := h8.cell.frozen' (i := 5) (by omega)
              have k5 := h8.cell.cell (i := 5) (by omega)
              have h9 := h8.put (i := 5) (by omega) (.int .i64 6) { S with st := 6 } (all16 rfl rfl rfl rfl rfl rfl rfl rfl rfl rfl rfl rfl rfl rfl rfl rfl)
              have hgg : blkOf (some (⟨g9, 0, none⟩ : Addr)) ≠ some g := fun e => by have := (ho9.2.lt e).1; have := h7.cell.lt; simp at *; omega
              have ho10 := ho9.far (p := ⟨g, 5, none⟩) hgg (.int .i64 6)
              have hem := demit_any h9 _ _ S.len _ _ ho10.rd (Nat.le_refl _) (Nat.le_refl _) (by omega) hlo (by show ((S.most : Nat) : Int) ≤ _; rw [HRM.out]; exact hmost)
              unfold EmitPost at hem
              have hbl : Hid ((cpL M.l D S.len).length = S.len) := cpL_length _ _ _
              rw [hbl.out] at hem
              by_cases hz : t.rem < t.len
              · rw [if_pos (show S.most < S.len by rw [HRM.out, HLEN.out]; exact hz)] at hem
                have HEM := Lib.hid hem
                have HZ := Lib.hid hz
                clear hem hz
                go_wp2_with fail
                refine HEM.out.mono ?_
                rintro e w10 ⟨A8, n8, c8, rfl, h10⟩
                go_wp2_with fail
                go_ret
                have hs0 : t.step = ({ t with x := (t.x.drop n).drop LE, st := 6, toks := t.toks ++ [Tok.mk 0 t.len D], all := t.all ++ (again t.all D t.len).take t.rem, rem := t.rem - (again t.all D t.len).length }, 6) := hs.out.trans (by rw [if_pos (by rw [again_length]; exact HZ.out)])
                refine StepPost.bad (b := (again t.all D t.len).take t.rem) hs0 (by decide) (by decide) (by decide) rfl (by rw [List.length_take, again_length]; have := HLEN.out; omega) (InfS.rebase hM1 hD1.out h10) hL.err ?_
                show M.out ++ (cpL M.l D S.len).take S.most = _
                rw [HRM.out, HLEN.out, hag.out]
              · rw [if_neg (show ¬ S.most < S.len by rw [HRM.out, HLEN.out]; exact hz)] at hem
                have HEM := Lib.hid hem
                have HZ := Lib.hid hz
                have HZ1 : Hid ((again t.all D t.len).take t.rem = again t.all D t.len) := List.take_of_length_le (by rw [again_length]; omega)
                clear hem hz
                go_wp2_with fail
                refine HEM.out.mono ?_
                rintro e w10 ⟨A8, n8, c8, rfl, h10⟩
                go_wp2_with fail
                go_ret
                have hs0 : t.step = ({ t with x := (t.x.drop n).drop LE, st := 6, toks := t.toks ++ [Tok.mk 0 t.len D], all := t.all ++ (again t.all D t.len).take t.rem, rem := t.rem - (again t.all D t.len).length }, 0) := hs.out.trans (by rw [if_neg (by rw [again_length]; exact HZ.out)])
                refine StepPost.go (b := (again t.all D t.len).take t.rem) hs0 rfl (by rw [List.length_take, again_length]; have := HLEN.out; omega) (InfS.rebase hM1 hD1.out h10) ⟨hrb2.out, rfl, hL.last, hL.left, hL.c0, hL.c1, hL.c2, hL.lens, fun e => by simp at e, fun _ => hL.lt (.inr HST.out), fun _ => hL.ds (.inr HST.out), fun e => by simp at e, ?_, ?_, hL.err⟩ ?_
                · show Tail (t.all ++ (again t.all D t.len).take t.rem) (addL M.l (cpL M.l D S.len))
                  rw [HZ1.out, HLEN.out, hag.out]
                  exact hL.tail.add _
                · show S.most - S.len = t.rem - (again t.all D t.len).length
                  rw [HRM.out, HLEN.out, again_length]
                · show M.out ++ (cpL M.l D S.len).take S.most = _
                  rw [HRM.out, HLEN.out, hag.out]
    · have hE1 : (E == 0) = false := by simpa using hE0
      have hn0 := hnone.out hE0
      have hs := Lib.hid (hstep.out.trans (if_pos hE0))
      have hee := Lib.hid (herr.out.resolve_left hE0)
      clear hnone herr hsym hstep HNX hrm
      subst hn0
      have h6 := InfS.rebase hM1 hD1 h5
      go_wp2_with fail
      go_ret
      rcases hee.out with he | he
      · subst he
        exact StepPost.bad0 hs.out (by decide) (by decide) (by decide) rfl h6 hL.err rfl
      · subst he
        exact StepPost.lack (by rw [hs.out]) h6 hL rfl
end
end Go.Proofs.Ytjeedkjgjfbndaa
