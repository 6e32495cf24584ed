/-
  The walk of the decoder's length.
-/
import Derived.Test.YtjeedkjgjfbndaaInfE
import Derived.Test.YtjeedkjgjfbndaaInfF
import Derived.Test.YtjeedkjgjfbndaaTabN
import Derived.Deep.DeepCutAuto
import Derived.BigRegion
namespace Go.Proofs.Ytjeedkjgjfbndaa
open Go.RowKit
set_option linter.unusedVariables false
section
variable {w w' w0 w2 : World} {b0 g : Nat} {c c0 : Nat → Nat} {M M' : DM} {S S' : DS} {s t t' : IS} {b : List Int} {v : Int}
theorem InfS.rebase (hM : InfM w b0 g c M S) (hd : DE b0 w0 c0 w c) (h : InfS w c w' b0 g M' S') : InfS w0 c0 w' b0 g M' S' := by
  obtain ⟨c', h1, h2⟩ := h
  exact ⟨c', h1, hd.step hM.lo (fun k hk => (hM.cb k hk).1) h2.2.1 h2.2.2⟩
/-- the reader stands where it stood -/
theorem InfS.restore (h : InfS w0 c0 w b0 g M S) {a' : Nat} (ha : a' ≤ 8 * M.B.length) : InfS w0 c0 ((w.setCell ⟨M.gi, 0, none⟩ (.slice M.Ai M.ni M.ci)).setCell ⟨M.gi, 1, none⟩ (.int .i64 a')) b0 g { M with a := a' } S := by
  have hr := h.rdr
  refine h.moved (((Chg.refl w (fun k => k = M.gi)).setCell (p := ⟨M.gi, 0, none⟩) (.inl rfl) _).setCell (p := ⟨M.gi, 1, none⟩) (.inl rfl) _) ⟨((hr.cell.set_ (i := 0) (by omega) _).set_ (i := 1) (by omega) _).congr fun i hi => ?_, hr.lo, (hr.own.far (p := ⟨M.gi, 0, none⟩) hr.apart _).far (p := ⟨M.gi, 1, none⟩) hr.apart _, hr.apart, hr.by_, ha⟩
  obtain rfl | rfl : i = 0 ∨ i = 1 := by omega
  · rfl
  · rfl
def LenPost (w0 : World) (c0 : Nat → Nat) (b0 g : Nat) (M : DM) (S : DS) (t : IS) (e : Ending) (w' : World) : Prop :=
  ∃ M' v t', e = .returned (.int .i64 v) ∧ InfS w0 c0 w' b0 g M' S ∧ M'.out = M.out ∧ t'.all = t.all ∧
    ((v = 0 ∧ t.step = (t', 0) ∧ t'.st = 5 ∧ Live M' S t') ∨ (v = 5 ∧ t.step.2 = 5 ∧ t' = t ∧ Live M' S t) ∨ (v ≠ 0 ∧ v ≠ 5 ∧ v ≠ 8 ∧ t.step = (t', v)))
theorem LenPost.go (hs : t.step = (t', 0)) (h5 : t'.st = 5) (hall : t'.all = t.all) (h : InfS w0 c0 w' b0 g M' S) (hL : Live M' S t') (ho : M'.out = M.out) : LenPost w0 c0 b0 g M S t (.returned (.int .i64 0)) w' :=
  ⟨M', 0, t', rfl, h, ho, hall, .inl ⟨rfl, hs, h5, hL⟩⟩
theorem LenPost.lack (hs : t.step.2 = 5) (h : InfS w0 c0 w' b0 g M' S) (hL : Live M' S t) (ho : M'.out = M.out) : LenPost w0 c0 b0 g M S t (.returned (.int .i64 5)) w' :=
  ⟨M', 5, t, rfl, h, ho, rfl, .inr (.inl ⟨rfl, hs, rfl, hL⟩)⟩
theorem LenPost.bad (hs : t.step = (t', v)) (h0 : v ≠ 0) (h5 : v ≠ 5) (h8 : v ≠ 8) (hall : t'.all = t.all) (h : InfS w0 c0 w' b0 g M' S) (ho : M'.out = M.out) : LenPost w0 c0 b0 g M S t (.returned (.int .i64 v)) w' :=
  ⟨M', v, t', rfl, h, ho, hall, .inr (.inr ⟨h0, h5, h8, hs⟩)⟩
theorem len_step (h : t.st = 5) (hl : t.lens.length < t.c0 + t.c1) : t.step = t.length := by unfold IS.step; rw [if_neg (by omega), if_neg (by omega), if_neg (by omega), if_neg (by omega), if_neg (by omega), if_pos h]; unfold IS.lengths; rw [if_pos hl]
/-- the loop that lays a length down so often -/
def RepR (w0 : World) (c0 : Nat → Nat) (b0 g : Nat) (M : DM) (S : DS) (n : Nat) (K : Int) (k : Nat) (i : Value) (wr : World) : Prop :=
  ∃ j A2 n2 c2, j ≤ n ∧ Hid (k = n - j) ∧ i = .int .i64 j ∧ InfS w0 c0 wr b0 g { M with Al := A2, nl := n2, cl := c2, lens := M.lens ++ List.replicate j K } S
set_option maxRecDepth 100000 in
set_option maxHeartbeats 2000000 in
theorem dlength_any (h : InfS w0 c0 w b0 g M S) (hL : Live M S t) (hO : t.Ok) (hst : t.st = 5) (hlt : t.lens.length < t.c0 + t.c1) :
    Calls Try.prog 41 #[.pointer (some ⟨g, 0, none⟩)] w (LenPost w0 c0 b0 g M S t) := by
  obtain ⟨c, hM, hD⟩ := h
  have hb1 : Below w.heap.size w (w.alloc (.cells #[.slice M.Ai M.ni M.ci, .int .i64 (M.a : Nat)] 44)).drew := ((Below.refl _ w).alloc (Nat.le_refl _) _).drew
  have hM1 := hM.keeps hb1
  have hD1 := hD.step (c' := c) hM.lo (fun k hk => (hM.cb k hk).1) (Chg.of_below hb1) (fun _ _ => rfl)
  have h1 := hM1.refl
  obtain ⟨t0, B, gt, hp, htab, hBw, hl288, hsep⟩ := h1.tabH (hL.hd hst)
  have hbx : c w.heap.size = 0 := by
    by_cases e : c w.heap.size = 0
    · exact e
    · have := (hM.cb _ e).2; omega
  have hbgs : M.gi < w.heap.size := hM.rdr.cell.lt
  have hgl : g < w.heap.size := hM.cell.lt
  have hnx := next_any _ t0 B gt b0 M.gi M.ni M.ci M.a M.Ai t.hd M.B htab hl288 hM1.rdr (Nat.le_trans hM.bB (by omega)) hBw hsep
  rw [show NextPost = NextPost from rfl] at hnx
  unfold NextPost at hnx
  have hb := hL.x
  rw [hb] at hnx
  have hstep : Hid (t.step = t.length) := len_step hst hlt
  unfold IS.length at hstep
  obtain ⟨i0, hi, hz0, hz1, hz2⟩ := info_parts xint_info
  have Hi := Lib.hid hi
  have Hz0 := Lib.hid hz0
  have Hz1 := Lib.hid hz1
  have Hz2 := Lib.hid hz2
  clear hi hz0 hz1 hz2
  obtain ⟨K, hK⟩ : ∃ K, (nextOf t.hd t.x).1 = K := ⟨_, rfl⟩
  obtain ⟨n, hn⟩ : ∃ n, (nextOf t.hd t.x).2.1 = n := ⟨_, rfl⟩
  obtain ⟨E, hE⟩ : ∃ E, (nextOf t.hd t.x).2.2 = E := ⟨_, rfl⟩
  have hnone : Hid (E ≠ 0 → n = 0) := fun h => by rw [← hn]; exact (nextOf_none (by rw [hE]; exact h)).2
  have herr : Hid (E = 0 ∨ E = 3 ∨ E = 5) := by have := nextOf_err t.hd t.x; rw [hE] at this; exact this
  have hsym : Hid (E = 0 → 0 ≤ K ∧ K < 19 ∧ n ≤ t.x.length) := fun h => by
    obtain ⟨k2, n2, e1, e2, e3, e4, e5⟩ := sym_read (l := t.hd) (x := t.x) hO.bit (by rw [hE, h]; simp)
    have := (hO.h5 hst).2.2.2
    rw [e1] at hK hn
    simp at hK hn
    omega
  rw [hK, hn, hE] at hnx hstep
  have HNX := Lib.hid hnx
  have k12 := hM.cell.cell (i := 12) (by omega)
  rw [show dF M S 12 = .pointer (some ⟨gt, 0, none⟩) from congrArg Value.pointer hp] at k12
  have k0 := hM.cell.cell (i := 0) (by omega)
  rw [show dF M S 0 = .pointer (some ⟨M.gi, 0, none⟩) from rfl] at k0
  have r0 := hM.rdr.cell.cell (i := 0) (by omega)
  have r1 := hM.rdr.cell.cell (i := 1) (by omega)
  rw [show rf M.Ai M.ni M.ci M.a 0 = .slice M.Ai M.ni M.ci from rfl] at r0
  rw [show rf M.Ai M.ni M.ci M.a 1 = .int .i64 (M.a : Nat) from rfl] at r1
  obtain ⟨hs5, hs5b, hs5c, hs5d⟩ := hO.h5 hst
  have hcc := hO.cc (.inr hst)
  have hnl := hM.lens.1
  rw [hL.lens] at hnl
  have hnlI : (0 : Int) ≤ M.nl ∧ (M.nl : Int) ≤ 316 ∧ (0 : Int) ≤ S.c0 ∧ (S.c0 : Int) ≤ 286 ∧ (0 : Int) ≤ S.c1 ∧ (S.c1 : Int) ≤ 30 := by have := hL.c0; have := hL.c1; omega
  have HNL := Lib.hid hnl
  have HB := Lib.hid hb
  have HHP := Lib.hid hp
  have HST := Lib.hid hst
  have HBX := Lib.hid hbx
  have HS5 := Lib.hid hs5
  clear hnx hK hn hE hp hb hnl hst htab hBw hl288 hsep h1 hbx hs5b hs5d hs5c hcc hs5 hlt hb1
  go_enter Try.func41, Try.ntmps41
  go_wp2_with fail
  go_cut [4, 5] (fun s4 s5 wx => s4 = .int .i64 K ∧ s5 = .int .i64 E ∧ Rdr wx b0 M.gi M.Ai M.ni M.ci M.B (M.a + n) ∧ Chg (w.alloc (.cells #[.slice M.Ai M.ni M.ci, .int .i64 (M.a : Nat)] 44)).drew wx (fun k => k = M.gi))
  case first =>
    go_region_law
      ((go_simp; go_at_call 42; (refine HNX.out.mono ?_))
       rintro e w5 ⟨rfl, hr5, hc5⟩)
    all_goals
      go_wp2_with fail
      go_meet
      exact ⟨rfl, rfl, hr5, hc5⟩
  case rest =>
    obtain ⟨rfl, rfl, hr5, hc5⟩ := hcut
    have h5 := hM1.refl.moved hc5 hr5
    have hrb : Hid (rb M.B (M.a + n) = t.x.drop n) := by show _ = _; rw [← rb_drop, HB.out]
    clear hr5
    by_cases hE0 : E = 0
    · subst hE0
      obtain ⟨hK0, hK19, hnx⟩ := hsym.out rfl
      have hst1 := Lib.hid (hstep.out.trans (if_neg (by decide)))
      clear hnone herr hsym hstep HNX
      by_cases hK16 : K < 16
      · have hs := Lib.hid (hst1.out.trans (if_pos hK16))
        clear hst1
        obtain ⟨-, -, -, -, -, -, -, -, -, -, -, i11, -⟩ := h5.cells
        have hoA := h5.lens.alloc (.cells #[.int .i64 K] 3)
        have hb1 := h5.lo
        go_wp2_with (at_builtin; (refine wpList_app .i64 b0 3 i0 8 rfl (.tmp 35) (.tmp 37) _ rfl Try.underlying38 Hi.out Hz0.out Hz1.out Hz2.out rfl hoA rfl (RdI.lit .i64 wc [K] 3) (by show M.nl + 1 ≤ _; omega) (by omega) (by simp; omega) ?_)
                     intro A4 d4 w4 hown4 hg4 hat4
                     have har4 := (h5.cell.alloc (.cells #[.int .i64 K] 3)).grown hg4 (fun e => h5.apart.2.1 e.symm)
                     have x11 := har4.cell (i := 11) (by omega)
                     have z11 := har4.frozen' (i := 11) (by omega))
        have h6 := InfS.rebase hM1 hD1 (h5.push K hg4 hown4 hat4)
        go_ret
        exact LenPost.go hs.out HST.out rfl h6 ⟨hrb.out, hL.st, hL.last, hL.left, hL.c0, hL.c1, hL.c2, by show M.lens ++ [K] = t.lens ++ [K]; rw [hL.lens], fun _ => hL.hd HST.out, fun e => by simp [HST.out] at e, fun e => by simp [HST.out] at e, fun e => by simp [HST.out] at e, hL.tail, hL.rem, hL.err⟩ rfl
      · have hst2 := Lib.hid (hst1.out.trans (if_neg hK16))
        clear hst1
        have hk3 : K = 16 ∨ K = 17 ∨ K = 18 := by omega
        obtain ⟨-, -, -, -, -, -, -, -, -, -, -, i11, -⟩ := h5.cells
        obtain ⟨Bd, hBd⟩ : ∃ Bd, decide (K = 16 ∧ t.lens.length = 0) = Bd := ⟨_, rfl⟩
        have HBd := Lib.hid hBd
        clear hBd
        go_upto_region 8 with fail
        go_cut [50] (fun s wx => s = .bool Bd ∧ wx = wc)
        case first =>
          by_cases h16 : K = 16
          · by_cases hn0 : M.nl = 0
            · have hd : Hid (true = Bd) := by show _ = _; rw [← HBd.out]; exact (decide_eq_true ⟨h16, by rw [← HNL.out]; exact hn0⟩).symm
              have i11b : wc.cell? ⟨g, 11, none⟩ = some (.slice M.Al 0 M.cl) := by rw [← hn0]; exact i11
              clear i11 hn0 HBd
              subst h16
              go_wp2_with fail
              go_meet
              exact ⟨congrArg Value.bool hd.out, rfl⟩
            · have hd : Hid (false = Bd) := by show _ = _; rw [← HBd.out]; exact (decide_eq_false fun h => hn0 (by rw [HNL.out]; exact h.2)).symm
              have hnf : ((M.nl : Int) == 0) = false := by simp; omega
              clear hn0 HBd
              subst h16
              go_wp2_with fail
              go_meet
              exact ⟨congrArg Value.bool hd.out, rfl⟩
          · have hd : Hid (false = Bd) := by show _ = _; rw [← HBd.out]; exact (decide_eq_false fun h => h16 h.1).symm
            have hkf : (K == 16) = false := by simpa using h16
            clear h16 HBd
            go_wp2_with fail
            go_meet
            exact ⟨congrArg Value.bool hd.out, rfl⟩
        case rest =>
          obtain ⟨rfl, rfl⟩ := hcut
          by_cases hemp : K = 16 ∧ t.lens.length = 0
          · have hs := Lib.hid (hst2.out.trans (if_pos hemp))
            rw [← HBd.out, decide_eq_true hemp]
            have h6 := InfS.rebase hM1 hD1 h5
            clear hemp hst2 hk3 hK16
            go_wp2_with fail
            go_ret
            exact LenPost.bad hs.out (by decide) (by decide) (by decide) rfl h6 rfl
          · have hst3 := Lib.hid (hst2.out.trans (if_neg hemp))
            rw [← HBd.out, decide_eq_false hemp]
            have hne16 : K = 16 → 0 < M.nl := fun h => by have := HNL.out; omega
            clear hst2 hemp
            by_cases hlk : (t.x.drop n).length < IS.rW K
            · have hs := Lib.hid (hst3.out.trans (if_pos hlk))
              have hrp := drep_lack h5 K hk3 (by rw [show ({ M with a := M.a + n } : DM).B = M.B from rfl, show ({ M with a := M.a + n } : DM).a = M.a + n from rfl, hrb.out]; exact hlk)
              have HRP := Lib.hid hrp
              clear hrp hlk hst3 hne16 hk3
              go_wp2_with fail
              refine HRP.out.mono ?_
              rintro e w6 ⟨rfl, h6⟩
              obtain ⟨c6, h6m, h6d⟩ := h6
              have hxc : ∀ i, w6.cell? ⟨w.heap.size, i, none⟩ = (w.alloc (.cells #[.slice M.Ai M.ni M.ci, .int .i64 (M.a : Nat)] 44)).drew.cell? ⟨w.heap.size, i, none⟩ := fun i => h6d.2.1.cell (p := ⟨w.heap.size, i, none⟩) (by simp) (fun e => e HBX.out)
              have x0 : w6.cell? ⟨w.heap.size, 0, none⟩ = some (.slice M.Ai M.ni M.ci) := by rw [hxc 0]; simp
              have x1 : w6.cell? ⟨w.heap.size, 1, none⟩ = some (.int .i64 (M.a : Nat)) := by rw [hxc 1]; simp
              have h6 : InfS _ c w6 b0 g { M with a := M.a + n } S := ⟨c6, h6m, h6d⟩
              have j0 := h6.cell.cell (i := 0) (by omega)
              rw [show dF { M with a := M.a + n } S 0 = .pointer (some ⟨M.gi, 0, none⟩) from rfl] at j0
              have s0 := h6.rdr.cell.cell (i := 0) (by omega)
              have s1 := h6.rdr.cell.cell (i := 1) (by omega)
              have z0 := h6.rdr.cell.frozen' (i := 0) (by omega)
              have z1 := h6.rdr.cell.frozen' (i := 1) (by omega)
              have h7 := InfS.rebase hM1 hD1 (h6.restore (a' := M.a) hM.rdr.le)
              clear hxc h6m h6d
              go_wp2_with fail
              go_region
              all_goals
                go_wp2_with fail
                go_ret
                exact LenPost.lack (by rw [hs.out]) h7.drew hL rfl
            · have hst4 := Lib.hid (hst3.out.trans (if_neg hlk))
              unfold IS.repeat_ at hst4
              have hnb := num_lt (hO.bit.drop_ n) (IS.rW K)
              have hp7 : 2 ^ IS.rW K ≤ 2 ^ 7 := Nat.pow_le_pow_right (by omega) (by rcases hk3 with rfl | rfl | rfl <;> decide)
              have hrB : IS.rB K ≤ 11 := by rcases hk3 with rfl | rfl | rfl <;> decide
              obtain ⟨KK, hKK⟩ : ∃ KK : Int, KK = if K = 16 then ix t.lens (t.lens.length - 1) else 0 := ⟨_, rfl⟩
              have hrbx : rb ({ M with a := M.a + n } : DM).B ({ M with a := M.a + n } : DM).a = t.x.drop n := hrb.out
              obtain ⟨T, hT⟩ : ∃ T, IS.rB K + num (t.x.drop n) (IS.rW K) = T := ⟨_, rfl⟩
              have hrp := drep_ok h5 K hk3 (by rw [hrbx]; omega) hne16 (by show M.nl ≤ 1000; omega) (T : Int) KK (by rw [hrbx, hT]) (by rw [hKK]; show _ = if K = 16 then ix M.lens (M.lens.length - 1) else 0; rw [hL.lens])
              rw [hT] at hst4
              rw [← hKK] at hst4
              have hTI : (0 : Int) ≤ T ∧ (T : Int) ≤ 200 := by omega
              have HRP := Lib.hid hrp
              have hrb2 : Hid (rb M.B (M.a + n + IS.rW K) = (t.x.drop n).drop (IS.rW K)) := by show _ = _; rw [← rb_drop, hrb.out]
              have hsum1 : IntKind.i64.wrap ((M.nl : Int) + (T : Int)) = (M.nl : Int) + (T : Int) := IntWalk.i64_in _ (by omega)
              have hsum2 : IntKind.i64.wrap ((S.c0 : Int) + (S.c1 : Int)) = (S.c0 : Int) + (S.c1 : Int) := IntWalk.i64_in _ (by omega)
              have hcmp : Hid ((S.c0 : Int) + (S.c1 : Int) < (M.nl : Int) + (T : Int) ↔ t.c0 + t.c1 < t.lens.length + T) := by show _ ↔ _; rw [← hL.c0, ← hL.c1, ← HNL.out]; omega
              clear hnb hp7 hrB hT hrp hlk hst3 hne16 hKK hrbx i11
              generalize IS.rW K = W at *
              have hkf : K = 16 ∨ K = 17 ∨ K = 18 := hk3
              clear hk3
              go_wp2_with fail
              refine HRP.out.mono ?_
              rintro e w6 ⟨rfl, h6⟩
              obtain ⟨-, -, -, -, -, -, -, -, j8, j9, -, j11, -⟩ := h6.cells
              by_cases hbig : (S.c0 : Int) + (S.c1 : Int) < (M.nl : Int) + (T : Int)
              · have hs := Lib.hid (hst4.out.trans (if_pos (hcmp.out.1 hbig)))
                have h7 := InfS.rebase hM1 hD1 h6.drew
                clear hst4 hcmp
                go_wp2_with fail
                go_region
                all_goals
                  go_wp2_with fail
                  go_ret
                  exact LenPost.bad hs.out (by decide) (by decide) (by decide) rfl h7 rfl
              · have hs := Lib.hid (hst4.out.trans (if_neg (fun h => hbig (hcmp.out.2 h))))
                clear hst4 hcmp
                go_wp2_with fail
                go_region
                all_goals
                  go_wp2_with fail
                  go_loopg [89] T (RepR (w.alloc (.cells #[.slice M.Ai M.ni M.ci, .int .i64 (M.a : Nat)] 44)).drew c b0 g { M with a := M.a + n + W } S T KK)
                  case atStart => exact ⟨0, M.Al, M.nl, M.cl, Nat.zero_le _, rfl, rfl, by rw [List.replicate_zero, List.append_nil]; exact h6.drew⟩
                  case round =>
                    clear h6 hsum1 hsum2 j8 j9 j11
                    obtain ⟨j, A2, n2, c2, hj, hk, rfl, h6⟩ := hrel
                    by_cases hjT : (j : Int) < (T : Int)
                    · obtain ⟨-, -, -, -, -, -, -, -, -, -, -, i11, -⟩ := h6.cells
                      have hoA := h6.lens.alloc (.cells #[.int .i64 KK] 3)
                      have hb1 := h6.lo
                      have hn2 : n2 = (M.lens ++ List.replicate j KK).length := h6.lens.1
                      rw [List.length_append, List.length_replicate, ← hM.lens.1] at hn2
                      have hn2b : n2 + 1 ≤ 1000000000000 := by omega
                      have hn2c : (0 : Int) ≤ n2 := by omega
                      clear hn2
                      go_wp2_with (at_builtin; (refine wpList_app .i64 b0 3 i0 8 rfl (.tmp 95) (.tmp 97) _ rfl Try.underlying38 Hi.out Hz0.out Hz1.out Hz2.out rfl hoA rfl (RdI.lit .i64 wr [KK] 3) hn2b (by omega) (by simp; omega) ?_)
                                   intro A4 d4 w4 hown4 hg4 hat4
                                   have har4 := (h6.cell.alloc (.cells #[.int .i64 KK] 3)).grown hg4 (fun e => h6.apart.2.1 e.symm)
                                   have x11 := har4.cell (i := 11) (by omega)
                                   have z11 := har4.frozen' (i := 11) (by omega))
                      have h7 := h6.push KK hg4 hown4 hat4
                      go_roundg (gk - 1)
                      case measure => have := hk.out; omega
                      case rel =>
                        refine ⟨j + 1, A4, n2 + 1, d4, by omega, by show gk - 1 = _; have := hk.out; omega, by go_num, ?_⟩
                        rw [List.replicate_succ', ← List.append_assoc]
                        exact h7
                    · obtain rfl : j = T := by omega
                      have h7 := InfS.rebase hM1 hD1 h6
                      go_wp2_with fail
                      go_ret
                      exact LenPost.go hs.out HST.out rfl h7 ⟨hrb2.out, hL.st, hL.last, hL.left, hL.c0, hL.c1, hL.c2, by show M.lens ++ List.replicate _ _ = t.lens ++ List.replicate _ _; rw [hL.lens], fun _ => hL.hd HST.out, fun e => by simp [HST.out] at e, fun e => by simp [HST.out] at e, fun e => by simp [HST.out] at e, hL.tail, hL.rem, hL.err⟩ rfl
    · have hE1 : (E == 0) = false := by simpa using hE0
      have hn0 := hnone.out hE0
      have hs := Lib.hid (hstep.out.trans (if_pos hE0))
      have hee := Lib.hid (herr.out.resolve_left hE0)
      clear hnone herr hsym hstep HNX
      subst hn0
      have h6 := InfS.rebase hM1 hD1 h5
      go_wp2_with fail
      go_ret
      rcases hee.out with he | he
      · subst he
        exact LenPost.bad hs.out (by decide) (by decide) (by decide) rfl h6 rfl
      · subst he
        exact LenPost.lack (by rw [hs.out]) h6 hL rfl
end
end Go.Proofs.Ytjeedkjgjfbndaa
