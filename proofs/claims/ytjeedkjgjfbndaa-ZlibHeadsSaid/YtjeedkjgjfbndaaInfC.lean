/-
  The walks of the decoder's stored, sizes.
-/
import Derived.Test.YtjeedkjgjfbndaaInfB
import Derived.Test.YtjeedkjgjfbndaaInfR
namespace Go.Proofs.Ytjeedkjgjfbndaa
open Go.RowKit
set_option linter.unusedVariables false
section
variable {w w' w0 : World} {b0 g : Nat} {c0 : Nat → Nat} {M M' : DM} {S S' : DS} {s t : IS} {b : List Int} {v : Int}
set_option maxRecDepth 100000 in
set_option maxHeartbeats 8000000 in
theorem dstored_any (h : InfS w0 c0 w b0 g M S) (hL : Live M S s) (hO : s.Ok) (hst : s.st = 2) (want : Int) (hw : 1 ≤ want) (hw2 : want ≤ 4611686018427387904) (hlo : M.out.length ≤ 10000000000) (hmost : (s.rem : Int) ≤ 4611686018427387904) :
    Calls Try.prog 27 #[.pointer (some ⟨g, 0, none⟩), .int .i64 want] w (StepPost w0 c0 b0 g M s) := by
  have hb := hL.x
  have hstep : Hid (s.step = s.stored) := by show _ = _; unfold IS.step; rw [if_neg (by omega), if_neg (by omega), if_pos hst]
  unfold IS.stored at hstep
  have hcl := h.cells
  obtain ⟨k0, k1, -, -, -, -, -, k7, -⟩ := hcl
  by_cases hlf : S.left = 0
  · have hs := Lib.hid (hstep.out.trans (if_pos (by rw [← hL.left]; exact hlf)))
    rw [hlf] at k7
    clear hstep
    go_enter Try.func27, Try.ntmps27
    go_wp2_with fail
    refine (dover_any h).mono ?_
    rintro e w1 ⟨rfl, h1⟩
    go_wp2_with fail
    go_ret
    have hov : s.over.all = s.all := by unfold IS.over; split <;> rfl
    refine StepPost.go0 hs.out hov h1 ?_ (by split <;> rfl)
    cases hla : S.last with
    | true =>
      have hla2 : s.last = true := by rw [← hL.last]; exact hla
      unfold IS.over
      rw [if_pos hla2, if_pos rfl, if_pos rfl]
      exact ⟨by show rb M.B ((M.a + 7) / 8 * 8) = algn s.x; rw [rb_algn h.rdr.le, hb], rfl, by show true = s.last; rw [hla2], hL.left, hL.c0, hL.c1, hL.c2, hL.lens, fun e => by simp at e, fun e => by simp at e, fun e => by simp at e, fun e => by simp at e, hL.tail, hL.rem, hL.err⟩
    | false =>
      have hla2 : s.last = false := by rw [← hL.last]; exact hla
      unfold IS.over
      rw [if_neg (show ¬ s.last = true by rw [hla2]; decide), if_neg (by decide), if_neg (by decide)]
      exact ⟨hL.x, rfl, by show false = s.last; rw [hla2], hL.left, hL.c0, hL.c1, hL.c2, hL.lens, fun e => by simp at e, fun e => by simp at e, fun e => by simp at e, fun e => by simp at e, hL.tail, hL.rem, hL.err⟩
  · have hn := h.rdr.n_eq
    have hle := h.rdr.le
    have hbg := h.big
    have hev := hO.even (.inr (.inl hst))
    rw [← hb, rb_length] at hev
    obtain ⟨j, hj⟩ : ∃ j, M.a = 8 * j := ⟨M.a / 8, by omega⟩
    obtain ⟨lf, hl⟩ : ∃ lf, S.left = lf := ⟨_, rfl⟩
    have hl2 : s.left = lf := by rw [← hL.left]; exact hl
    have hl3 := hO.left
    rw [hl] at k7 hlf
    obtain ⟨K, hK⟩ : ∃ K, K = min (min lf want.toNat) (M.B.length - j) := ⟨_, rfl⟩
    have hjB : j ≤ M.B.length := by omega
    have hKl : K ≤ lf ∧ j + K ≤ M.B.length := by omega
    have hR : Hid (∀ N : Int, N = min (lf : Int) want → (K : Int) = max 0 (min N ((M.ni - (M.a + 7) / 8 : Nat) : Int))) := fun N hN => by omega
    have hR2 : Hid ((M.a + 7) / 8 = j ∧ (M.a + 7) / 8 * 8 + 8 * K = 8 * (j + K)) := by show _ ∧ _; omega
    have hby := h.rdr.by_
    have hxj : s.x = rb M.B (8 * j) := by rw [← hb, hj]
    have hl0 : s.left ≠ 0 := by omega
    have hend : Hid (K = 0 → s.step.2 = 5 ∧ 8 * (j + K) = M.a) := fun h0 => ⟨by rw [hstep.out, if_neg hl0, if_pos (by rw [hxj, rb_length]; omega)], by omega⟩
    have hrun : Hid (0 < K → K ≤ s.rem → IS.Steps s { s with x := rb M.B (8 * (j + K)), left := s.left - K, all := s.all ++ (M.B.drop j).take K, rem := s.rem - K }) := fun _ h1 => stored_steps hby hst hxj K (by omega) (by omega) h1
    have hcap : Hid (s.rem < K → s.fin.2 = 6 ∧ s.fin.1.all = s.all ++ (M.B.drop j).take s.rem) := fun h1 => stored_cap hby hst hxj K (by omega) (by omega) h1
    have hKI : (K : Int) ≤ (lf : Int) ∧ (lf : Int) ≤ 65535 ∧ (0 : Int) ≤ K := by omega
    have hK7 : K ≤ 65535 := by omega
    have hbl : Hid (((M.B.drop j).take K).length = K) := by show _ = _; rw [List.length_take, List.length_drop]; omega
    have hwI : IntKind.i64.wrap ((lf : Int) - (K : Int)) = ((lf - K : Nat) : Int) := by rw [IntWalk.i64_in _ (by omega)]; omega
    have hlK : Hid ((lf : Int) - (K : Int) = ((lf - K : Nat) : Int)) := by show _ = _; omega
    have hL1 := Lib.hid hl
    have hL2 := Lib.hid hl2
    have hJ := Lib.hid hj
    have hlf1 : ((lf : Int) == 0) = false := by simp; omega
    have hmuK : Hid (0 < K → ∀ t : IS, t.st = 2 → t.x = rb M.B (8 * (j + K)) → t.mu < s.mu) := fun h0 t h1 h2 => by
      have e1 : t.mu = 3 * t.x.length + 1 := by unfold IS.mu; rw [if_neg (by omega), if_pos (by omega)]
      have e2 : s.mu = 3 * s.x.length + 1 := by unfold IS.mu; rw [if_neg (by omega), if_pos (by omega)]
      rw [e1, e2, h2, hxj, rb_length, rb_length]
      omega
    have hw3 : ¬ want < 1 := by omega
    have hcs : want < (lf : Int) ∨ ¬ want < (lf : Int) := by omega
    clear hl hl2 hl3 hK hn hle hev hj hby hxj hl0 hlf hstep hb hjB hKl
    rcases hcs with h1 | h1
    all_goals
      go_enter Try.func27, Try.ntmps27
      go_wp2_with fail
      go_region_law
        ((go_simp; go_at_call 23; (refine (rdrRead_any w.drew b0 _ _ _ _ _ _ h.drew.rdr (Nat.le_trans hbg (by omega)) _ K (hR.out _ (by (repeat' split) <;> omega))).mono ?_))
         rintro e w5 ⟨A5, c5, rfl, ho5, hr5, hc5⟩
         rw [hR2.out.1] at ho5
         rw [hR2.out.2] at hr5
         have h5 := h.drew.moved hc5 hr5
         obtain ⟨-, j1, -, -, -, -, -, j7, -⟩ := h5.cells
         have z7 := h5.cell.frozen' (i := 7) (by omega)
         rw [hL1.out] at j7)
      all_goals
        by_cases hK0 : K = 0
        · have hE := hend.out hK0
          rw [hE.2] at h5
          subst hK0
          go_wp2_with fail
          go_ret
          exact StepPost.lack hE.1 h5 hL rfl
        · have hK1 : 0 < K := by omega
          have hKf : ((K : Int) == 0) = false := by simp; omega
          have h6 := h5.put (i := 7) (by omega) (.int .i64 ((lf - K : Nat) : Int)) { S with left := lf - K } (all16 rfl rfl rfl rfl rfl rfl rfl rfl rfl rfl rfl rfl rfl rfl rfl rfl)
          have hne5 : blkOf A5 ≠ some g := fun (e : blkOf A5 = some g) => by have := (ho5.2.lt e).1; have := h.drew.cell.lt; omega
          have hnw5 : ∀ k, blkOf A5 = some k → ¬ foot M.Aw M.gw k := fun k e e2 => by have := (ho5.2.lt e).1; have := (h.drew.win.foot_lo e2).2; omega
          have ho6 := ho5.far (p := ⟨g, 7, none⟩) hne5 (.int .i64 ((lf - K : Nat) : Int))
          obtain ⟨-, i1, -⟩ := h6.cells
          go_wp2_with fail
          refine (winAdd_any _ _ _ _ _ _ _ _ _ _ _ _ h6.win ho6.rd (Nat.le_refl _) (by omega)).mono ?_
          rintro e w7 ⟨A7, n7, c7, rfl, hw7, hc7, hf7⟩
          have h7 := h6.window hc7 hw7 (fun k hk => by
            rcases hk with hk | hk
            · exact .inl (.inl hk)
            · exact (hf7 k hk).imp (fun e => .inr e) id)
          have ho7 := hc7.ownI ho6 hnw5
          have hcap7 := ho7.2.capLe
          have hem := demit_any h7 _ _ c5 _ _ ho7.rd (Nat.le_refl _) hcap7 (by omega) hlo (by rw [hL.rem]; exact hmost)
          have hbl' := hbl.out
          unfold EmitPost at hem
          rw [hbl'] at hem
          by_cases hcr : K ≤ s.rem
          · rw [if_neg (show ¬ S.most < K by rw [hL.rem]; omega)] at hem
            have HCR := Lib.hid hcr
            have HEM := Lib.hid hem
            clear hcr hbl' hem
            go_wp2_with fail
            refine HEM.out.mono ?_
            rintro e w8 ⟨A8, n8, c8, rfl, h8⟩
            go_wp2_with fail
            go_ret
            have hrun' := hrun.out hK1 HCR.out
            have hbt : ((M.B.drop j).take K).take S.most = (M.B.drop j).take K := List.take_of_length_le (by rw [hbl.out, hL.rem]; exact HCR.out)
            rw [hbt] at h8
            refine ⟨_, _, _, 0, _, rfl, h8, hL.err, rfl, rfl, by rw [hbl.out]; omega, .inl ⟨rfl, hrun', hmuK.out hK1 _ hst rfl, ⟨rfl, hL.st, hL.last, by show lf - K = s.left - K; rw [hL2.out], hL.c0, hL.c1, hL.c2, hL.lens, fun e => by simp [hst] at e, fun e => by simp [hst] at e, fun e => by simp [hst] at e, fun e => by simp [hst] at e, hL.tail.add _, by show S.most - K = s.rem - K; rw [hL.rem], hL.err⟩⟩⟩
          · rw [if_pos (show S.most < K by rw [hL.rem]; omega)] at hem
            have HCR := Lib.hid hcr
            have HEM := Lib.hid hem
            clear hcr hbl' hem
            go_wp2_with fail
            refine HEM.out.mono ?_
            rintro e w8 ⟨A8, n8, c8, rfl, h8⟩
            go_wp2_with fail
            go_ret
            have hcr := HCR.out
            obtain ⟨f1, f2⟩ := hcap.out (by omega)
            refine ⟨_, _, s.fin.1, 6, (List.take K (List.drop j M.B)).take S.most, rfl, h8, hL.err, rfl, ?_, ?_, .inr (.inr ⟨by decide, by decide, by rw [← f1], fun e => by simp at e⟩)⟩
            · rw [f2, List.take_take, hL.rem, Nat.min_eq_left (by omega)]
            · rw [List.length_take, hbl.out]; omega
end
end Go.Proofs.Ytjeedkjgjfbndaa
