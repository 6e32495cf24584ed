/-
  The walk of the reference's dynamic.
-/
import Derived.Test.YtlgkiookobedcaaPk28
import Derived.Test.YtlgkiookobedcaaPk10
import Derived.Test.YtlgkiookobedcaaArr
import Derived.Test.YtlgkiookobedcaaPk8
import Derived.Great.BuildSlice
namespace Go.Proofs.Ytlgkiookobedcaa
open Go.RowKit
set_option linter.unusedVariables false
section
variable {w w' w0 w2 wr w5 : World} {b0 g : Nat} {c c0 c' : Nat → Nat} {R R' R1 : RM} {s t t' : IS} {v : Int}
theorem num14 (x : List Int) (h : Bit x) (hl : 14 ≤ x.length) : num x 14 % 32 = num x 5 ∧ num x 14 / 32 % 32 = num (x.drop 5) 5 ∧ num x 14 / 1024 = num (x.drop 10) 4 := by
  have a1 := (num_split x h 5 9).resolve_right (by omega)
  have a2 := (num_split (x.drop 5) (h.drop_ 5) 5 4).resolve_right (by rw [List.length_drop]; omega)
  rw [List.drop_drop] at a2
  have a1 : num x 14 = num x 5 + 2 ^ 5 * num (x.drop 5) 9 := a1
  have a2 : num (x.drop 5) 9 = num (x.drop 5) 5 + 2 ^ 5 * num (x.drop 10) 4 := a2
  have l1 := num_lt h 5
  have l2 := num_lt (h.drop_ 5) 5
  have e : (2 : Nat) ^ 5 = 32 := by decide
  rw [e] at a1 a2 l1 l2
  refine ⟨?_, ?_, ?_⟩ <;> omega
theorem DE.own (hd : DE b0 w0 c0 w c) (hc : Chg w w' (fun k => w0.heap.size ≤ k)) (hb : b0 ≤ w0.heap.size) : DE b0 w0 c0 w' c :=
  ⟨hd.1.trans (hc.below (b0 := b0) (fun k hk => Nat.le_trans hb hk) (Nat.le_trans hb hd.2.1.size)), hd.2.1.trans hc (fun k hk => .inr hk), hd.2.2⟩
def DynPost (w : World) (b0 g : Nat) (c : Nat → Nat) (R : RM) (s : IS) (e : Ending) (w' : World) : Prop :=
  (∃ R' t c' Al nl cl Ad nd cd, e = .returned (.bool true) ∧ RefM w' b0 g c' R' ∧ DE b0 w c w' c' ∧ IS.Steps s t ∧ t.st = 6 ∧ t.Ok ∧ RLive R' t ∧ R'.Al = .slice Al nl cl ∧ R'.Ad = .slice Ad nd cd ∧ RdI .i64 w' w'.heap.size Al nl t.lt ∧ RdI .i64 w' w'.heap.size Ad nd t.ds ∧ (0 < nl → ∀ ad, Al = some ad → c' ad.block = 0) ∧ (0 < nd → ∀ ad, Ad = some ad → c' ad.block = 0) ∧ Keep R R') ∨
  (∃ R' t v, e = .returned (.bool false) ∧ RefS w c w' b0 g R' ∧ s.fin = (t, v) ∧ v ≠ 8 ∧ REnd R' t v)
theorem DynPost.bad (hs : IS.Steps s t) (h : t.step = (t', v)) (h0 : v ≠ 0) (h8 : v ≠ 8) (hR : RefS w c w' b0 g R') (hE : REnd R' t' v) : DynPost w b0 g c R s (.returned (.bool false)) w' :=
  .inr ⟨R', t', v, rfl, hR, by rw [← hs.fin_eq, IS.fin_stop (by rw [h]; exact h0), h], h8, hE⟩
def HdR (w : World) (b0 g : Nat) (c : Nat → Nat) (R : RM) (s : IS) (A B C : Nat) (gh go : Nat) (k : Nat) (v11 v12 : Value) (wr : World) : Prop :=
  ∃ j R' t c', j ≤ C ∧ Hid (k = C - j) ∧ v12 = .int .i64 j ∧ v11 = .bool (!noneB t.lens) ∧ RefM wr b0 g c' R' ∧ DE b0 w c wr c' ∧ c' gh = 0 ∧ c' go = 0 ∧ IS.Steps s t ∧ RLive R' t ∧ t.Ok ∧ t.st = 4 ∧ Hid (t.lens.length = j) ∧ Hid (t.c0 = A ∧ t.c1 = B ∧ t.c2 = C) ∧ Ar wr gh 19 (hF t.lens j) ∧ Ar wr go 19 (fun p => .int .i64 (hOrd.getD p 0 : Nat)) ∧ Keep R R'
structure LnM (w : World) (b0 g : Nat) (c : Nat → Nat) (gh gc : Nat) (H : List Int) (R : RM) (Al : Option Addr) (n cp : Nat) (l : List Int) (wr : World) (c' : Nat → Nat) : Prop where
  own : OwnI .i64 wr w.heap.size 3 Al n cp l
  ref : RefM wr b0 g c' R
  de : DE b0 w c wr c'
  cgh : c' gh = 0
  cgc : c' gc = 0
  row : ∀ q, blkOf Al = some q → c' q = 0 ∧ q ≠ gh ∧ q ≠ gc
  rH : RdI .i64 wr wr.heap.size (some ⟨gh, 0, none⟩) 19 H
  rC : RdI .u32 wr wr.heap.size (some ⟨gc, 0, none⟩) 19 (codesOf H)
  lh : gh < wr.heap.size
  lc : gc < wr.heap.size
theorem LnM.push {gh gc : Nat} {H l : List Int} {Al A4 : Option Addr} {n cp n4 d4 : Nat} {w4 : World} (h : LnM w b0 g c gh gc H R Al n cp l wr c') (hbw : b0 ≤ w.heap.size) (v : Int) (hg4 : (wr.alloc (.cells #[.int .i64 v] 3)).grownBy w4 (blkOf Al)) (hown4 : OwnI .i64 w4 w.heap.size 3 A4 n4 d4 (l ++ [v])) (hat : blkOf A4 = blkOf Al ∨ blkOf A4 = some (wr.alloc (.cells #[.int .i64 v] 3)).heap.size) :
    LnM w b0 g c gh gc H R A4 n4 d4 (l ++ [v]) w4 c' := by
  have hc : Chg wr w4 (fun q => blkOf Al = some q) := ((Chg.refl wr (fun q => blkOf Al = some q)).alloc _).grown hg4 (fun q e => .inl e)
  have hlo : ∀ q, blkOf Al = some q → w.heap.size ≤ q := fun q hq => (h.own.2.lt hq).1
  have hsz := hc.size
  refine ⟨hown4, h.ref.aside hc (fun q hq => (h.row q hq).1), h.de.own (hc.more hlo) hbw, h.cgh, h.cgc, fun q hq => ?_, (hc.rdI h.rH (Nat.le_refl _) (fun _ ad e e2 => ?_)).more hsz, (hc.rdI h.rC (Nat.le_refl _) (fun _ ad e e2 => ?_)).more hsz, Nat.lt_of_lt_of_le h.lh hsz, Nat.lt_of_lt_of_le h.lc hsz⟩
  · rcases hat with e | e
    · exact h.row q (by rw [← e]; exact hq)
    · rw [e] at hq; injection hq with hq
      simp at hq
      have h1 := h.lh
      have h2 := h.lc
      refine ⟨?_, by omega, by omega⟩
      by_cases e : c' q = 0
      · exact e
      · have := (h.ref.cb q e).2; omega
  · injection e with e; subst e
    exact (h.row _ e2).2.1 rfl
  · injection e with e; subst e
    exact (h.row _ e2).2.2 rfl
theorem LnM.turn {gh gc : Nat} {H l : List Int} {Al : Option Addr} {n cp : Nat} (h : LnM w b0 g c gh gc H R Al n cp l wr c') (hr : RefS wr c' w' b0 g R') : ∃ c6, LnM w b0 g c gh gc H R' Al n cp l w' c6 := by
  obtain ⟨c6, hM6, hD6⟩ := hr
  have hc := hD6.2.1
  have hsz := hc.size
  refine ⟨c6, hc.ownI h.own (fun q hq e => e (h.row q hq).1), hM6, h.de.step h.ref.lo (fun k hk => (h.ref.cb k hk).1) hc hD6.2.2, (hD6.2.2 _ h.lh).trans h.cgh, (hD6.2.2 _ h.lc).trans h.cgc, fun q hq => ⟨(hD6.2.2 _ (h.own.2.lt hq).2).trans (h.row q hq).1, (h.row q hq).2⟩, (hc.rdI h.rH (Nat.le_refl _) (fun _ ad e e2 => ?_)).more hsz, (hc.rdI h.rC (Nat.le_refl _) (fun _ ad e e2 => ?_)).more hsz, Nat.lt_of_lt_of_le h.lh hsz, Nat.lt_of_lt_of_le h.lc hsz⟩
  · injection e with e; subst e
    exact e2 h.cgh
  · injection e with e; subst e
    exact e2 h.cgc
def LnR (w : World) (b0 g : Nat) (c : Nat → Nat) (R : RM) (s : IS) (A B : Nat) (gh gc : Nat) (H : List Int) (k : Nat) (v16 : Value) (wr : World) : Prop :=
  ∃ R' t c' Al n cp, v16 = .slice Al n cp ∧ LnM w b0 g c gh gc H R' Al n cp t.lens wr c' ∧ IS.Steps s t ∧ RLive R' t ∧ t.Ok ∧ t.st = 5 ∧ Hid (k = t.mu) ∧ Hid (t.c0 = A ∧ t.c1 = B ∧ t.hd = H) ∧ Keep R R'
def RpR (w : World) (b0 g : Nat) (c : Nat → Nat) (gh gc : Nat) (H : List Int) (R1 : RM) (l : List Int) (K : Int) (N : Nat) (c' : Nat → Nat) (k : Nat) (v16 v24 : Value) (wr : World) : Prop :=
  ∃ j A n cp, j ≤ N ∧ Hid (k = N - j) ∧ v24 = .int .i64 j ∧ v16 = .slice A n cp ∧ LnM w b0 g c gh gc H R1 A n cp (l ++ List.replicate j K) wr c'
theorem hF_push {l : List Int} {j : Nat} (hj : j < 19) (hl : l.length = j) (V : Int) : ∀ q, q < 19 → upd (hF l j) (hOrd.getD j 0) (.int .i64 V) q = hF (l ++ [V]) (j + 1) q := fun q hq => by
  have h := hF_next (l := l ++ [V]) (i := j) hj hq
  have e : ix (l ++ [V]) j = V := by rw [ix_append, if_neg (by omega), hl, Nat.sub_self]; rfl
  rw [e] at h
  rw [← h]
  by_cases hp : q = hOrd.getD j 0
  · rw [hp, upd_same, upd_same]
  · rw [upd_other _ _ hp, upd_other _ _ hp]
    unfold hF
    by_cases hi : hOrd.idxOf q < j
    · rw [if_pos hi, if_pos hi, ix_append, if_pos (by omega)]
    · rw [if_neg hi, if_neg hi]
theorem noneB_push (l : List Int) (V : Int) : noneB (l ++ [V]) = (noneB l && (V == 0)) := by simp [noneB]
theorem step_lack5 (h : t.step.2 = 5) : t.step = (t, 5) := Prod.ext (IS.step_lack h) h
def ordS (w : World) : World := (w.alloc (.cells (([16, 17, 18, 0, 8, 7, 9, 6, 10, 5, 11, 4, 12, 3, 13, 2, 14, 1, 15] : List Int).map (Value.int .i64)).toArray 3)).alloc (.cells (zrow 19 (.int .i64 0)) 3)
theorem ordS_facts (w : World) (l : List Int) : Below w.heap.size w (ordS w) ∧ Ar (ordS w) w.heap.size 19 (fun p => .int .i64 (hOrd.getD p 0 : Nat)) ∧ Ar (ordS w) (w.heap.size + 1) 19 (hF l 0) := by
  refine ⟨((Below.refl _ w).alloc (Nat.le_refl _) _).alloc (by simp) _, ?_, ?_⟩
  · refine (Ar.new (m := 19) (f := fun p => .int .i64 (hOrd.getD p 0 : Nat)) w _ 3 rfl (fun i hi => ?_)).alloc _
    obtain rfl | rfl | rfl | rfl | rfl | rfl | rfl | rfl | rfl | rfl | rfl | rfl | rfl | rfl | rfl | rfl | rfl | rfl | rfl : i = 0 ∨ i = 1 ∨ i = 2 ∨ i = 3 ∨ i = 4 ∨ i = 5 ∨ i = 6 ∨ i = 7 ∨ i = 8 ∨ i = 9 ∨ i = 10 ∨ i = 11 ∨ i = 12 ∨ i = 13 ∨ i = 14 ∨ i = 15 ∨ i = 16 ∨ i = 17 ∨ i = 18 := by omega
    all_goals rfl
  · have h2 := (Ar.zeros (w.alloc (.cells (([16, 17, 18, 0, 8, 7, 9, 6, 10, 5, 11, 4, 12, 3, 13, 2, 14, 1, 15] : List Int).map (Value.int .i64)).toArray 3)) 19 (.int .i64 0) 3).congr (f' := hF l 0) fun p _ => hF_zero l p
    rw [show (w.alloc (.cells (([16, 17, 18, 0, 8, 7, 9, 6, 10, 5, 11, 4, 12, 3, 13, 2, 14, 1, 15] : List Int).map (Value.int .i64)).toArray 3)).heap.size = w.heap.size + 1 by simp] at h2
    exact h2
set_option maxRecDepth 100000 in
set_option maxHeartbeats 8000000 in
theorem rdynamic_any (h : RefM w b0 g c R) (hL : RLive R s) (hO : s.Ok) (hst : s.st = 3) :
    Calls Try.prog 21 #[.pointer (some ⟨g, 0, none⟩)] w (DynPost w b0 g c R s) := by
  obtain ⟨i0, hi, hz0, hz1, hz2⟩ := info_parts xint_info
  have Hi := Lib.hid hi
  have Hz0 := Lib.hid hz0
  have Hz1 := Lib.hid hz1
  have Hz2 := Lib.hid hz2
  have hlen := hL.len
  have hle := hL.le
  have hstep : Hid (s.step = s.sizes) := by show _ = _; unfold IS.step; rw [if_neg (by omega), if_neg (by omega), if_neg (by omega), if_pos hst]
  unfold IS.sizes at hstep
  have k1 := h.cell.cell (i := 1) (by omega)
  have z1 := h.cell.frozen' (i := 1) (by omega)
  have k5 := h.cell.cell (i := 5) (by omega)
  have k6 := h.cell.cell (i := 6) (by omega)
  rw [show sF R 5 = .slice R.Ab R.nb R.cb from rfl] at k5
  rw [show sF R 6 = .int .i64 (R.at_ : Nat) from rfl] at k6
  obtain ⟨e, he⟩ : ∃ e, R.at_ + 14 = e := ⟨_, rfl⟩
  have hw : IntKind.i64.wrap ((R.at_ : Int) + 14) = (e : Int) := by rw [IntWalk.i64_in _ (by omega)]; omega
  have hnb : R.nb = R.X.length := h.bits.1
  have hlx : s.x.length = R.X.length - R.at_ := by rw [← hL.x, List.length_drop]
  have hS := h.refl
  have HST := Lib.hid hst
  clear hi hz0 hz1 hz2
  by_cases hlk : (R.nb : Int) < (e : Int)
  · have hs := Lib.hid (hstep.out.trans (if_pos (by omega)))
    have h1 := hS.drew.put (i := 1) (by omega) (.int .i64 5) { R with E := 5 } (all13 rfl rfl rfl rfl rfl rfl rfl rfl rfl rfl rfl rfl rfl) rfl
    clear he hnb hlx hstep hst
    go_enter Try.func21, Try.ntmps21
    go_wp2_with fail
    go_region
    all_goals
      go_wp2_with fail
      go_ret
      exact DynPost.bad (.refl s) hs.out (by decide) (by decide) h1 ⟨hL.out, hL.kinds, hL.stops, hL.toks, rfl⟩
  · have hsz := Lib.hid (hstep.out.trans (if_neg (by omega)))
    have hbx : Bit s.x := hO.bit
    obtain ⟨n1, n2, n3⟩ := num14 s.x hbx (by omega)
    have l1 := num_lt hbx 5
    have l2 := num_lt (hbx.drop_ 5) 5
    have l3 := num_lt (hbx.drop_ 10) 4
    obtain ⟨A, hA⟩ : ∃ A, num s.x 5 = A := ⟨_, rfl⟩
    obtain ⟨B, hB⟩ : ∃ B, num (s.x.drop 5) 5 = B := ⟨_, rfl⟩
    obtain ⟨C, hC⟩ : ∃ C, num (s.x.drop 10) 4 = C := ⟨_, rfl⟩
    rw [n1, n2, n3, hA, hB, hC] at hsz
    have ht1 := Lib.hid (rtake_ok hS.drew 5 (by omega) (by omega) hL.bit (by omega) (A : Int) (by rw [hL.x, hA]))
    have ht2 := fun W (hW : RefS w c W b0 g { R with at_ := R.at_ + 5 }) => rtake_ok hW 5 (by omega) (by show R.X.length ≤ _; omega) hL.bit (by show R.at_ + 5 + 5 ≤ R.X.length; omega) (B : Int) (by show _ = ((num (R.X.drop (R.at_ + 5)) 5 : Nat) : Int); rw [← List.drop_drop, hL.x, hB])
    have ht3 := fun W (hW : RefS w c W b0 g { R with at_ := R.at_ + 5 + 5 }) => rtake_ok hW 4 (by omega) (by show R.X.length ≤ _; omega) hL.bit (by show R.at_ + 5 + 5 + 4 ≤ R.X.length; omega) (C : Int) (by show _ = ((num (R.X.drop (R.at_ + 5 + 5)) 4 : Nat) : Int); rw [Nat.add_assoc, ← List.drop_drop, hL.x, hC])
    have HT2 := Lib.hid ht2
    have HT3 := Lib.hid ht3
    have e5 : (2 : Nat) ^ 5 = 32 := by decide
    have e4 : (2 : Nat) ^ 4 = 16 := by decide
    rw [hA, e5] at l1
    rw [hB, e5] at l2
    rw [hC, e4] at l3
    obtain ⟨A1, hA1⟩ : ∃ A1, A + 257 = A1 := ⟨_, rfl⟩
    obtain ⟨B1, hB1⟩ : ∃ B1, B + 1 = B1 := ⟨_, rfl⟩
    obtain ⟨C1, hC1⟩ : ∃ C1, C + 4 = C1 := ⟨_, rfl⟩
    rw [hA1, hB1, hC1] at hsz
    have hAI : (A : Int) + 257 = (A1 : Int) := by omega
    have hBI : (B : Int) + 1 = (B1 : Int) := by omega
    have hCI : (C : Int) + 4 = (C1 : Int) := by omega
    have hbd : (0 : Int) ≤ A ∧ (A : Int) < 32 ∧ (0 : Int) ≤ B ∧ (B : Int) < 32 ∧ (0 : Int) ≤ C ∧ (C : Int) < 16 := by omega
    have hAB : (257 : Int) ≤ A1 ∧ (A1 : Int) ≤ 288 ∧ (1 : Int) ≤ B1 ∧ (B1 : Int) ≤ 32 ∧ (4 : Int) ≤ C1 ∧ (C1 : Int) ≤ 19 := by omega
    have hxd : Hid (R.X.drop (R.at_ + 5 + 5 + 4) = s.x.drop 14) := by show _ = _; rw [← hL.x, List.drop_drop]
    have hat : Hid (R.at_ + 5 + 5 + 4 ≤ R.X.length) := by show _ ≤ _; omega
    clear n1 n2 n3 hA hB hC e5 e4 hA1 hB1 hC1 l1 l2 l3 he hnb hlx hstep hst ht2 ht3
    by_cases hbig : (286 : Int) < A1 ∨ (30 : Int) < B1
    · have hs2 := Lib.hid (hsz.out.trans (if_pos (by omega)))
      have hcs : (286 : Int) < A1 ∨ (¬ (286 : Int) < A1 ∧ (30 : Int) < B1) := by omega
      clear hbig hsz
      rcases hcs with h1 | ⟨h1, h2⟩
      all_goals
        go_enter Try.func21, Try.ntmps21
        go_wp2_with fail
        go_region
        all_goals
          go_wp2_with fail
          refine ht1.out.mono ?_
          rintro e w3 ⟨rfl, h3⟩
          go_wp2_with fail
          refine (HT2.out _ h3).mono ?_
          rintro e w4 ⟨rfl, h4⟩
          go_wp2_with fail
          refine (HT3.out _ h4).mono ?_
          rintro e w5 ⟨rfl, h5⟩
          have j1 := h5.cell.cell (i := 1) (by omega)
          have y1 := h5.cell.frozen' (i := 1) (by omega)
          have h6 := h5.put (i := 1) (by omega) (.int .i64 2) { R with at_ := R.at_ + 5 + 5 + 4, E := 2 } (all13 rfl rfl rfl rfl rfl rfl rfl rfl rfl rfl rfl rfl rfl) rfl
          go_wp2_with fail
          go_ret
          exact DynPost.bad (.refl s) hs2.out (by decide) (by decide) h6 ⟨hL.out, hL.kinds, hL.stops, hL.toks, rfl⟩
    · have hs2 := Lib.hid (hsz.out.trans (if_neg (by omega)))
      have h1 : ¬ (286 : Int) < A1 := by omega
      have h2 : ¬ (30 : Int) < B1 := by omega
      clear hbig hsz
      have hmk : ∀ W, (Instr.makeSlice 32 (.int .i64 19) (.int .i64 19)).run Try.prog W = .ok (.slice (some ⟨W.heap.size, 0, none⟩) 19 19) (W.alloc (.cells (zrow 19 (.int .i64 0)) 3)) := fun W => run_make_zrow (P := Try.prog) 32 3 i0 (.int .i64 0) Try.underlying32 Hi.out Hz0.out Hz1.out rfl .i64 .i64 19 (by rw [Hz2.out]; omega) (by omega) W
      have HMK := Lib.hid hmk
      clear hmk
      go_enter Try.func21, Try.ntmps21
      go_wp2_with fail
      go_region
      all_goals
        go_wp2_with fail
        refine ht1.out.mono ?_
        rintro e w3 ⟨rfl, h3⟩
        go_wp2_with fail
        refine (HT2.out _ h3).mono ?_
        rintro e w4 ⟨rfl, h4⟩
        go_wp2_with fail
        refine (HT3.out _ h4).mono ?_
        rintro e w5 ⟨rfl, h5⟩
        go_upto_region 13 with fail
        refine wp_region_list ?_
        refine wpList_buildFlatAt rfl 32 3 19 _ rfl .i64 [16, 17, 18, 0, 8, 7, 9, 6, 10, 5, 11, 4, 12, 3, 13, 2, 14, 1, 15] _ rfl _ rfl Try.underlying32 (by kernel_rfl) (by kernel_rfl) rfl (by decide) (by decide) rfl ?_
        have hmk := HMK.out
        go_wp2_with fail
        change Code.wp _ _ _ _ (ordS w5)
        have hof := ordS_facts w5 []
        obtain ⟨go, hgo⟩ : ∃ go, w5.heap.size = go := ⟨_, rfl⟩
        have hinit : Hid (HdR w b0 g c R s A1 B1 C1 (go + 1) go C1 (.bool false) (.int .i64 0) (ordS w5)) := by
          obtain ⟨c5, hM5, hD5⟩ := h5
          have hcz : ∀ q, w5.heap.size ≤ q → c5 q = 0 := fun q hq => by
            by_cases e : c5 q = 0
            · exact e
            · have := (hM5.cb q e).2; omega
          have hO1 := hO.step (.inl (by rw [hs2.out]))
          have hS1 := IS.Steps.one (s := s) (by rw [hs2.out])
          rw [hs2.out] at hO1 hS1
          exact ⟨0, { R with at_ := R.at_ + 5 + 5 + 4 }, _, c5, Nat.zero_le _, rfl, rfl, rfl, hM5.keeps hof.1, hD5.step hM5.lo (fun k hk => (hM5.cb k hk).1) (Chg.of_below hof.1) (fun _ _ => rfl), hcz _ (by omega), hcz _ (by omega), hS1, ⟨hxd.out, hat.out, hL.out, hL.kinds, hL.stops, hL.toks, hL.most, hL.E, hL.bit, hL.len, hL.even, hL.small, Nat.le_trans hL.tk (by show R.at_ ≤ R.at_ + 5 + 5 + 4; omega)⟩, hO1, rfl, rfl, ⟨rfl, rfl, rfl⟩, by rw [← hgo]; exact hof.2.2, by rw [← hgo]; exact hof.2.1, ⟨rfl, rfl, rfl, by show R.at_ ≤ R.at_ + 5 + 5 + 4; omega⟩⟩
        have hgow : Hid (w.heap.size ≤ go) := by show _ ≤ _; rw [← hgo]; exact h5.aside.1.size
        rw [hgo]
        clear hof hmk h5 h4 h3 hgo hL hO k1 z1 k5 k6 hS
        generalize ordS w5 = wo at hinit ⊢
        have hgl := h.cell.lt
        have hbw := h.lo
        go_loopg [11, 12] C1 (HdR w b0 g c R s A1 B1 C1 (go + 1) go)
        case atStart => exact hinit.out
        case round =>
          clear hinit
          obtain ⟨j, R1, t, c', hj, hk, rfl, rfl, hM, hD, hch, hco, hs, hL, hO, hst, hlj, hcc, har, hao, hkp⟩ := hrel
          have hlen1 := hL.len
          have hle1 := hL.le
          have hxl : t.x.length = R1.X.length - R1.at_ := by rw [← hL.x, List.length_drop]
          have HLJ := hlj
          have HCC := hcc
          have HST2 := Lib.hid hst
          have HCH := Lib.hid hch
          have HCO := Lib.hid hco
          by_cases hjC : (j : Int) < (C1 : Int)
          · have hlt2 : t.lens.length < t.c2 := by have := hlj.out; have := hcc.out.2.2; omega
            by_cases hx3 : t.x.length < 3
            · have hs3 := Lib.hid (step_lack5 (heads_lack hst hlt2 hx3))
              have ht := Lib.hid (rtake_not hM.refl 3 (by omega) (by omega) hle1 (by omega))
              clear hx3 hxl hlt2 hst hch hco hlen1 hle1
              go_wp2_with fail
              refine ht.out.mono ?_
              rintro e w6 ⟨rfl, h6⟩
              go_wp2_with fail
              go_ret
              exact DynPost.bad hs hs3.out (by decide) (by decide) (RefS.rebase hM hD h6) ⟨hL.out, hL.kinds, hL.stops, hL.toks, rfl⟩
            · have hs3 := Lib.hid (heads_push hst hlt2 hx3)
              have hvl := num_lt (hO.bit) 3
              obtain ⟨V, hV⟩ : ∃ V : Int, ((num t.x 3 : Nat) : Int) = V := ⟨_, rfl⟩
              have ht := Lib.hid (rtake_ok hM.refl 3 (by omega) (by omega) hL.bit (by omega) V (by rw [hL.x, hV]))
              rw [hV] at hs3
              have hVb : 0 ≤ V ∧ V < 8 := by have : (2 : Nat) ^ 3 = 8 := (by decide); omega
              have hx3d : Hid (R1.X.drop (R1.at_ + 3) = t.x.drop 3) := by show _ = _; rw [← hL.x, List.drop_drop]
              have hat3 : Hid (R1.at_ + 3 ≤ R1.X.length) := by show _ ≤ _; omega
              have hjI : (0 : Int) ≤ j ∧ (j : Int) < 19 := by omega
              have hp := hOrd_lt j (by omega)
              have hpush := Lib.hid (hF_push (l := t.lens) (j := j) (by omega) hlj.out V)
              obtain ⟨p, hpp⟩ : ∃ p, hOrd.getD j 0 = p := ⟨_, rfl⟩
              rw [hpp] at hp hpush
              have hpI : (0 : Int) ≤ p ∧ (p : Int) < 19 := by omega
              have HNP := Lib.hid (noneB_push t.lens V)
              have hcO := Lib.hid hpp
              clear hx3 hxl hlt2 hst hch hco hlen1 hle1 hvl hV hpp
              go_wp2_with fail
              refine ht.out.mono ?_
              rintro e w6 ⟨rfl, c6, hM6, hD6⟩
              have har6 := hD6.2.1.ar har (fun e => e HCH.out)
              have hao6 := hD6.2.1.ar hao (fun e => e HCO.out)
              have q1 := hao6.cell (i := j) (by omega)
              rw [hcO.out] at q1
              have q2 := har6.cell (i := p) hp
              have q3 := har6.frozen' (i := p) hp
              have hgo6 : go + 1 < w6.heap.size := har6.lt
              have hstep6 : Hid (∀ nb, nb = !noneB (t.lens ++ [V]) → HdR w b0 g c R s A1 B1 C1 (go + 1) go (gk - 1) (.bool nb) (.int .i64 ((j : Int) + 1)) (w6.setCell ⟨go + 1, p, none⟩ (.int .i64 V))) := fun nb hnb => by
                have hO2 := hO.step (.inl (by rw [hs3.out]))
                have hS2 := IS.Steps.tail hs (by rw [hs3.out])
                rw [hs3.out] at hO2 hS2
                have hcg6 : c6 (go + 1) = 0 := by rw [hD6.2.2 _ har.lt]; exact HCH.out
                have hco6 : c6 go = 0 := by rw [hD6.2.2 _ hao.lt]; exact HCO.out
                have hch6 : Chg w6 (w6.setCell ⟨go + 1, p, none⟩ (.int .i64 V)) (fun k => k = go + 1) := (Chg.refl w6 (fun k => k = go + 1)).setCell (p := ⟨go + 1, p, none⟩) (.inl rfl) _
                have hD6' : DE b0 w c w6 c6 := hD.step hM.lo (fun k hk => (hM.cb k hk).1) hD6.2.1 hD6.2.2
                refine ⟨j + 1, _, _, c6, by omega, by show gk - 1 = _; have := hk.out; omega, by go_num, by rw [hnb], hM6.aside hch6 (fun k hk => by rw [hk]; exact hcg6), hD6'.own (hch6.more fun k hk => by rw [hk]; exact Nat.le_trans hgow.out (Nat.le_succ _)) hbw, hcg6, hco6, hS2, ⟨hx3d.out, hat3.out, hL.out, hL.kinds, hL.stops, hL.toks, hL.most, hL.E, hL.bit, hL.len, hL.even, hL.small, Nat.le_trans hL.tk (by show R1.at_ ≤ R1.at_ + 3; omega)⟩, hO2, HST2.out, by show (t.lens ++ [V]).length = _; rw [List.length_append, HLJ.out]; rfl, HCC.out, (har6.set_ hp _).congr fun q hq => hpush.out q hq, hao6.far (p := ⟨go + 1, p, none⟩) (by show go ≠ go + 1; omega) _, ⟨hkp.X, hkp.kinds, hkp.stops, Nat.le_trans hkp.le (by show R1.at_ ≤ R1.at_ + 3; omega)⟩⟩
              clear hM6 hD6 har hao
              cases hnb : noneB t.lens
              · rw [hnb] at HNP
                have HN2 : Hid (true = !noneB (t.lens ++ [V])) := by show _ = _; rw [HNP.out]; rfl
                clear HNP hnb
                go_wp2_with fail
                go_roundg (gk - 1)
                case measure => have := hk.out; omega
                case rel => exact hstep6.out _ HN2.out
              · rw [hnb] at HNP
                by_cases hV0 : V = 0
                · have HN2 : Hid (false = !noneB (t.lens ++ [V])) := by show _ = _; rw [HNP.out, hV0]; rfl
                  have hV1 : ¬ (0 : Int) < V := by omega
                  clear HNP hnb
                  subst hV0
                  go_wp2_with fail
                  go_roundg (gk - 1)
                  case measure => have := hk.out; omega
                  case rel => exact hstep6.out _ HN2.out
                · have HN2 : Hid (true = !noneB (t.lens ++ [V])) := by
                    show _ = _
                    have : (V == 0) = false := by simpa using hV0
                    rw [HNP.out, this]; rfl
                  have hV1 : (0 : Int) < V := by omega
                  clear HNP hnb hV0
                  go_wp2_with fail
                  go_roundg (gk - 1)
                  case measure => have := hk.out; omega
                  case rel => exact hstep6.out _ HN2.out
          · obtain rfl : j = C1 := by omega
            clear hAI hBI hCI hj hk hjC
            obtain ⟨lv, hlv⟩ : ∃ lv, t.lens = lv := ⟨_, rfl⟩
            rw [← hlj.out, hlv] at har
            have hr2 : RdI .i64 wr wr.heap.size (some ⟨go + 1, 0, none⟩) 19 (hAll lv) := ⟨(hAll_length lv).symm, (har.rd (B := wr.heap.size) har.lt (Nat.le_refl 19)).congr fun q hq => hF_end hq⟩
            have hbd' := Lib.hid (heads_bad (t := t) hst (by have := hlj.out; have := hcc.out.2.2; omega))
            have hok' := Lib.hid (heads_ok (t := t) hst (by have := hlj.out; have := hcc.out.2.2; omega))
            rw [hlv] at hbd' hok' ⊢
            have HLV := Lib.hid hlv
            have hgl1 := har.lt
            have hrc := fun W (hW : RdI .i64 W wr.heap.size (some ⟨go + 1, 0, none⟩) 19 (hAll lv)) => rcheck_any (some ⟨go + 1, 0, none⟩) 19 19 _ (hAll lv) 7 W hW (by omega)
            have HRC := Lib.hid (hrc wr hr2)
            have hE1 := hM.cell.cell (i := 1) (by omega)
            have hZ1 := hM.cell.frozen' (i := 1) (by omega)
            have hbad3 : Hid (RefS w c (wr.setCell ⟨g, 1, none⟩ (.int .i64 3)) b0 g { R1 with E := 3 }) := RefS.rebase hM hD (hM.refl.put (i := 1) (by omega) (.int .i64 3) { R1 with E := 3 } (all13 rfl rfl rfl rfl rfl rfl rfl rfl rfl rfl rfl rfl rfl) rfl)
            clear hlv hst hrc har hao hch hco hlen1 hle1 hxl
            by_cases hck : checkOf (hAll lv) 7 = 0
            · cases hnn : noneB lv
              · have hs3 := Lib.hid (hok'.out (by rw [hck, hnn]; simp))
                have HCK := Lib.hid hck
                rw [hck] at HRC
                clear hck hnn hbd' hok' hbad3
                go_wp2_with fail
                refine HRC.out.mono ?_
                rintro e w6 ⟨rfl, rfl⟩
                go_wp2_with fail
                refine (rcodes_new _ _ _ _ _ _ hr2 (Nat.le_refl _) (by omega)).mono ?_
                rintro e w7 ⟨gc, rfl, hcd, hb7, hgc⟩
                have hcz : c' gc = 0 := by
                  by_cases e : c' gc = 0
                  · exact e
                  · have := (hM.cb _ e).2; omega
                have hgc7 : gc < w7.heap.size := by
                  obtain ⟨ad, e, hb, -⟩ := hcd.at_ (i := 0) (by omega)
                  injection e with e; subst e
                  exact hb
                have hlnm : LnM w b0 g c (go + 1) gc (hAll lv) R1 none 0 0 [] w7 c' := ⟨OwnI.nil_, hM.keeps hb7, hD.step hM.lo (fun k hk => (hM.cb k hk).1) (Chg.of_below hb7) (fun _ _ => rfl), HCH.out, hcz, fun q hq => by simp [blkOf] at hq, (hr2.below hb7).more hb7.size, hcd, Nat.lt_of_lt_of_le hgl1 hb7.size, hgc7⟩
                have hinit2 : Hid (∃ k, LnR w b0 g c R s A1 B1 (go + 1) gc (hAll lv) k (.slice none 0 0) w7) := by
                  have hO2 := hO.step (.inl (by rw [hs3.out]))
                  have hS2 := IS.Steps.tail hs (by rw [hs3.out])
                  rw [hs3.out] at hO2 hS2
                  exact ⟨_, R1, _, c', none, 0, 0, rfl, hlnm, hS2, ⟨hL.x, hL.le, hL.out, hL.kinds, hL.stops, hL.toks, hL.most, hL.E, hL.bit, hL.len, hL.even, hL.small, hL.tk⟩, hO2, rfl, rfl, ⟨HCC.out.1, HCC.out.2.1, rfl⟩, hkp⟩
                obtain ⟨k0, hinit2⟩ := hinit2.out
                have HI2 := Lib.hid hinit2
                clear hinit2 hlnm hcd hM hD hL hO hr2 hE1 hZ1 hs hkp hs3
                go_wp2_with fail
                go_loopg [16] k0 (LnR w b0 g c R s A1 B1 (go + 1) gc (hAll lv))
                case atStart => exact HI2.out
                case round =>
                  clear HI2
                  obtain ⟨R2, t2, c2, Al, n, cp, rfl, hN, hs, hL, hO, hst, hk, hcst, hkp⟩ := hrel
                  have hnl : n = t2.lens.length := hN.own.1
                  obtain ⟨q1, q2, q3, q4⟩ := hO.h5 hst
                  have hcst' := hcst.out
                  have hnI : (0 : Int) ≤ n ∧ (n : Int) ≤ 320 := by omega
                  have HNL := Lib.hid hnl
                  have HST3 := Lib.hid hst
                  have HQ1 := Lib.hid q1
                  have hchk : checkOf (hAll lv) 7 = 0 := HCK.out
                  have hin : ∀ i, i < 19 → 0 ≤ ix (hAll lv) i ∧ ix (hAll lv) i ≤ 15 := fun i hi => by
                    have : 0 ≤ ix (hAll lv) i ∧ ix (hAll lv) i ≤ 7 := by
                      apply Classical.byContradiction
                      intro hne
                      rw [checkOf_in (by rw [hAll_length]; exact hi) hne] at hchk
                      exact absurd hchk (by decide)
                    omega
                  have hlen2 := hL.len
                  have hle2 := hL.le
                  have hxl2 : t2.x.length = R2.X.length - R2.at_ := by rw [← hL.x, List.length_drop]
                  by_cases hlt : (n : Int) < (A1 : Int) + (B1 : Int)
                  · have hstep2 : Hid (t2.step = t2.length) := len_step hst (by omega)
                    unfold IS.length at hstep2
                    obtain ⟨K, hK⟩ : ∃ K, (nextOf t2.hd t2.x).1 = K := ⟨_, rfl⟩
                    obtain ⟨N, hNn⟩ : ∃ n, (nextOf t2.hd t2.x).2.1 = n := ⟨_, rfl⟩
                    obtain ⟨E, hE⟩ : ∃ E, (nextOf t2.hd t2.x).2.2 = E := ⟨_, rfl⟩
                    have herr : Hid (E = 0 ∨ E = 3 ∨ E = 5) := by have := nextOf_err t2.hd t2.x; rw [hE] at this; exact this
                    have hsym : Hid (E = 0 → 0 ≤ K ∧ K < 19 ∧ N ≤ t2.x.length) := fun h => by
                      obtain ⟨k2, n2, e1, e2, e3, e4, e5⟩ := sym_read (l := t2.hd) (x := t2.x) hO.bit (by rw [hE, h]; simp)
                      rw [e1] at hK hNn
                      simp at hK hNn
                      omega
                    have hno : nextOf t2.hd t2.x = (K, N, E) := by rw [← hK, ← hNn, ← hE]
                    rw [hK, hNn, hE] at hstep2
                    have hsy := rsym_any hN.ref.refl (some ⟨go + 1, 0, none⟩) (some ⟨gc, 0, none⟩) 19 19 19 (hAll lv) hN.rH hN.rC (by omega) hin (by omega) hL.bit hle2 K N E (by rw [hL.x, ← hcst'.2.2]; exact hno)
                    have HSY := Lib.hid hsy
                    clear hK hNn hE hno hsy hin hchk hnl hst q1 q2 q3 q4 hcst' hle2 hlen2
                    by_cases hE0 : E = 0
                    · subst hE0
                      obtain ⟨hK0, hK19, hNx⟩ := hsym.out rfl
                      have hst1 := Lib.hid (hstep2.out.trans (if_neg (by decide)))
                      have hx3 : Hid (R2.X.drop (R2.at_ + N) = t2.x.drop N) := by show _ = _; rw [← hL.x, List.drop_drop]
                      have hat3 : Hid (R2.at_ + N ≤ R2.X.length) := by show _ ≤ _; have := hL.le; omega
                      have hsy1 : Calls Try.prog 35 #[.pointer (some ⟨g, 0, none⟩), .slice (some ⟨go + 1, 0, none⟩) 19 19, .slice (some ⟨gc, 0, none⟩) 19 19] wr fun e w' => e = .returned (.tuple #[.int .i64 K, .bool true]) ∧ RefS wr c2 w' b0 g { R2 with at_ := R2.at_ + N } := by
                        refine HSY.out.mono ?_
                        rintro e w' (⟨-, h1, h2⟩ | ⟨h1, -⟩)
                        · exact ⟨h1, h2⟩
                        · exact absurd rfl h1
                      have HSY1 := Lib.hid hsy1
                      have hL3 : RLive { R2 with at_ := R2.at_ + N } { t2 with x := t2.x.drop N } := ⟨hx3.out, hat3.out, hL.out, hL.kinds, hL.stops, hL.toks, hL.most, hL.E, hL.bit, hL.len, hL.even, hL.small, Nat.le_trans hL.tk (by show R2.at_ ≤ R2.at_ + N; omega)⟩
                      have hkp3 : Keep R { R2 with at_ := R2.at_ + N } := ⟨hkp.X, hkp.kinds, hkp.stops, Nat.le_trans hkp.le (by show R2.at_ ≤ R2.at_ + N; omega)⟩
                      clear hstep2 hsym herr HSY hsy1 hxl2
                      go_wp2_with fail
                      refine HSY1.out.mono ?_
                      rintro e w6 ⟨rfl, h6⟩
                      obtain ⟨c6, hN6⟩ := hN.turn h6
                      clear h6
                      by_cases hK16 : K < 16
                      · have hs4 := Lib.hid (hst1.out.trans (if_pos hK16))
                        have hoA := hN6.own.alloc (.cells #[.int .i64 K] 3)
                        have hb6 := hN6.de.2.1.size
                        have hm4 : Hid (t2.step.1.mu < t2.mu) := IS.mu_step (by rw [hs4.out])
                        clear hst1
                        go_wp2_with (at_builtin; (refine wpList_app .i64 w.heap.size 3 i0 8 rfl (.tmp 124) (.tmp 126) _ rfl Try.underlying32 Hi.out Hz0.out Hz1.out Hz2.out rfl hoA rfl (RdI.lit .i64 w6 [K] 3) (by omega) (by omega) (by simp; omega) ?_)
                                     intro A4 d4 w4 hown4 hg4 hat4)
                        have hN7 := hN6.push hbw K hg4 hown4 hat4
                        go_roundg t2.step.1.mu
                        case measure => have := hk.out; have := hm4.out; omega
                        case rel =>
                          have hO2 := hO.step (.inl (by rw [hs4.out]))
                          have hS2 := IS.Steps.tail hs (by rw [hs4.out])
                          rw [hs4.out] at hO2 hS2 ⊢
                          exact ⟨_, _, c6, A4, n + 1, d4, rfl, hN7, hS2, ⟨hL3.x, hL3.le, hL3.out, hL3.kinds, hL3.stops, hL3.toks, hL3.most, hL3.E, hL3.bit, hL3.len, hL3.even, hL3.small, hL3.tk⟩, hO2, HST3.out, rfl, hcst.out, hkp3⟩
                      · have hst2 := Lib.hid (hst1.out.trans (if_neg hK16))
                        have hk3 : K = 16 ∨ K = 17 ∨ K = 18 := by omega
                        clear hst1
                        obtain ⟨Bd, hBd⟩ : ∃ Bd, decide (K = 16 ∧ t2.lens.length = 0) = Bd := ⟨_, rfl⟩
                        have HBd := Lib.hid hBd
                        clear hBd
                        go_upto_region 35 with fail
                        go_cut [134] (fun s wx => s = .bool Bd ∧ wx = w6)
                        case first =>
                          by_cases h16 : K = 16
                          · by_cases hn0 : n = 0
                            · have hd : Hid (true = Bd) := by show _ = _; rw [← HBd.out]; exact (decide_eq_true ⟨h16, by rw [← HNL.out]; exact hn0⟩).symm
                              clear HBd
                              subst h16 hn0
                              go_wp2_with fail
                              go_meet
                              exact ⟨congrArg Value.bool hd.out, rfl⟩
                            · have hd : Hid (false = Bd) := by show _ = _; rw [← HBd.out]; exact (decide_eq_false fun h => hn0 (by rw [HNL.out]; exact h.2)).symm
                              have hnf : ((n : Int) == 0) = false := by simp; omega
                              clear hn0 HBd
                              subst h16
                              go_wp2_with fail
                              go_meet
                              exact ⟨congrArg Value.bool hd.out, rfl⟩
                          · have hd : Hid (false = Bd) := by show _ = _; rw [← HBd.out]; exact (decide_eq_false fun h => h16 h.1).symm
                            have hkf : (K == 16) = false := by simpa using h16
                            clear h16 HBd
                            go_wp2_with fail
                            go_meet
                            exact ⟨congrArg Value.bool hd.out, rfl⟩
                        case rest =>
                          rename World => wc
                          obtain ⟨rfl, rfl⟩ := hcut
                          by_cases hemp : K = 16 ∧ t2.lens.length = 0
                          · have hs4 := Lib.hid (hst2.out.trans (if_pos hemp))
                            rw [← HBd.out, decide_eq_true hemp]
                            have x1 := hN6.ref.cell.cell (i := 1) (by omega)
                            have y1 := hN6.ref.cell.frozen' (i := 1) (by omega)
                            have h7 := RefS.rebase hN6.ref hN6.de (hN6.ref.refl.put (i := 1) (by omega) (.int .i64 2) { R2 with at_ := R2.at_ + N, E := 2 } (all13 rfl rfl rfl rfl rfl rfl rfl rfl rfl rfl rfl rfl rfl) rfl)
                            clear hemp hst2 hk3 hK16
                            go_wp2_with fail
                            go_ret
                            exact DynPost.bad hs hs4.out (by decide) (by decide) h7 ⟨hL.out, hL.kinds, hL.stops, hL.toks, rfl⟩
                          · have hst3 := Lib.hid (hst2.out.trans (if_neg hemp))
                            rw [← HBd.out, decide_eq_false hemp]
                            have hne16 : K = 16 → 0 < n := fun h => by have := HNL.out; omega
                            clear hst2 hemp HBd
                            obtain ⟨W, hW⟩ : ∃ W, IS.rW K = W := ⟨_, rfl⟩
                            obtain ⟨Bs, hBs⟩ : ∃ B, IS.rB K = B := ⟨_, rfl⟩
                            have hWB : W ≤ 7 ∧ Bs ≤ 11 := by rw [← hW, ← hBs]; rcases hk3 with rfl | rfl | rfl <;> decide
                            have HWB := Lib.hid (And.intro hW hBs)
                            rw [hW] at hst3
                            clear hW hBs
                            obtain ⟨W1, hW1⟩ : ∃ W1 : Nat, (if K = 17 then 3 else 2) = W1 := ⟨_, rfl⟩
                            have HW1 : Hid ((K = 17 → W1 = 3 ∧ W = 3 ∧ Bs = 3) ∧ (K = 18 → W = 7 ∧ Bs = 11) ∧ (K = 16 → W1 = 2 ∧ W = 2 ∧ Bs = 3)) := by
                              refine ⟨fun h => ?_, fun h => ?_, fun h => ?_⟩
                              · subst h; rw [← hW1, ← HWB.out.1, ← HWB.out.2]; exact ⟨rfl, rfl, rfl⟩
                              · subst h; rw [← HWB.out.1, ← HWB.out.2]; exact ⟨rfl, rfl⟩
                              · subst h; rw [← hW1, ← HWB.out.1, ← HWB.out.2]; exact ⟨rfl, rfl, rfl⟩
                            have HW17 : Hid (K ≠ 17 → W1 = 2) := fun h => by rw [← hW1, if_neg h]
                            clear hW1
                            go_upto_if 139 with fail
                            go_cut [19] (fun s19 wx => s19 = .int .i64 W1 ∧ wx = wc)
                            case first =>
                              by_cases h17 : K = 17
                              · have hf : Hid (Value.int .i64 3 = Value.int .i64 (W1 : Int)) := by show _ = _; rw [(HW1.out.1 h17).1]; rfl
                                clear HW1 HW17 HWB
                                subst h17
                                go_wp2_with fail
                                go_meet
                                exact ⟨hf.out, rfl⟩
                              · have hf : Hid (Value.int .i64 2 = Value.int .i64 (W1 : Int)) := by show _ = _; rw [HW17.out h17]; rfl
                                have h17f : (K == 17) = false := by simpa using h17
                                clear HW1 HW17 HWB h17
                                go_wp2_with fail
                                go_meet
                                exact ⟨hf.out, rfl⟩
                            case rest =>
                              obtain ⟨rfl, rfl⟩ := hcut
                              go_upto_if 141 with fail
                              go_cut [19, 20] (fun s19 s20 wx => s19 = .int .i64 W ∧ s20 = .int .i64 Bs ∧ wx = wc)
                              case first =>
                                by_cases h18 : K = 18
                                · have hf : Hid (Value.int .i64 7 = Value.int .i64 (W : Int) ∧ Value.int .i64 11 = Value.int .i64 (Bs : Int)) := by show _ ∧ _; rw [(HW1.out.2.1 h18).1, (HW1.out.2.1 h18).2]; exact ⟨rfl, rfl⟩
                                  clear HW1 HW17 HWB
                                  subst h18
                                  go_wp2_with fail
                                  go_meet
                                  exact ⟨hf.out.1, hf.out.2, rfl⟩
                                · have hf : Hid (Value.int .i64 (W1 : Int) = Value.int .i64 (W : Int) ∧ Value.int .i64 3 = Value.int .i64 (Bs : Int)) := by
                                    show _ ∧ _
                                    rcases hk3 with h | h | h
                                    · obtain ⟨a1, a2, a3⟩ := HW1.out.2.2 h; rw [a1, a2, a3]; exact ⟨rfl, rfl⟩
                                    · obtain ⟨a1, a2, a3⟩ := HW1.out.1 h; rw [a1, a2, a3]; exact ⟨rfl, rfl⟩
                                    · exact absurd h h18
                                  have h18f : (K == 18) = false := by simpa using h18
                                  clear HW1 HW17 HWB h18
                                  go_wp2_with fail
                                  go_meet
                                  exact ⟨hf.out.1, hf.out.2, rfl⟩
                              case rest =>
                                obtain ⟨rfl, rfl, rfl⟩ := hcut
                                have hxl3 : (t2.x.drop N).length = R2.X.length - (R2.at_ + N) := by rw [← hx3.out, List.length_drop]
                                have hlen3 := hL.len
                                by_cases hlk : (t2.x.drop N).length < W
                                · have hs4 := Lib.hid (hst3.out.trans (if_pos hlk))
                                  have ht := Lib.hid (rtake_not hN6.ref.refl W (by omega) (by show R2.X.length ≤ _; omega) hat3.out (by show R2.X.length < R2.at_ + N + W; omega))
                                  clear hlk hxl3 hst3 hlen3 hne16
                                  go_wp2_with fail
                                  refine ht.out.mono ?_
                                  rintro e w7 ⟨rfl, h7⟩
                                  go_wp2_with fail
                                  go_ret
                                  exact DynPost.bad hs hs4.out (by decide) (by decide) (RefS.rebase hN6.ref hN6.de h7) ⟨hL.out, hL.kinds, hL.stops, hL.toks, rfl⟩
                                · have hst4 := Lib.hid (hst3.out.trans (if_neg hlk))
                                  unfold IS.repeat_ at hst4
                                  have hvl := num_lt (hO.bit.drop_ N) W
                                  have hp7 : 2 ^ W ≤ 2 ^ 7 := Nat.pow_le_pow_right (by omega) hWB.1
                                  obtain ⟨V, hV⟩ : ∃ V, num (t2.x.drop N) W = V := ⟨_, rfl⟩
                                  have ht := Lib.hid (rtake_ok hN6.ref.refl W (by omega) (by show R2.X.length ≤ _; omega) hL.bit (by show R2.at_ + N + W ≤ R2.X.length; have := hat3.out; omega) (V : Int) (by show _ = ((num (R2.X.drop (R2.at_ + N)) W : Nat) : Int); rw [hx3.out, hV]))
                                  rw [hV] at hvl
                                  obtain ⟨T, hT⟩ : ∃ T, Bs + V = T := ⟨_, rfl⟩
                                  obtain ⟨KK, hKK⟩ : ∃ KK : Int, (if K = 16 then ix t2.lens (t2.lens.length - 1) else 0) = KK := ⟨_, rfl⟩
                                  rw [HWB.out.1, HWB.out.2, hV, hT, hKK] at hst4
                                  have hTi : (Bs : Int) + (V : Int) = (T : Int) := by omega
                                  have hTI : (0 : Int) ≤ T ∧ (T : Int) ≤ 200 ∧ (0 : Int) ≤ V ∧ (V : Int) ≤ 128 ∧ (0 : Int) ≤ Bs ∧ (Bs : Int) ≤ 11 := by omega
                                  have hx4 : Hid (R2.X.drop (R2.at_ + N + W) = (t2.x.drop N).drop W) := by show _ = _; rw [← hx3.out, List.drop_drop]
                                  have hat4 : Hid (R2.at_ + N + W ≤ R2.X.length) := by show _ ≤ _; have := hat3.out; omega
                                  have HKK := Lib.hid hKK
                                  clear hlk hxl3 hst3 hlen3 hvl hp7 hV hT hKK hWB HWB HW1 HW17
                                  go_wp2_with fail
                                  refine ht.out.mono ?_
                                  rintro e w7 ⟨rfl, h7⟩
                                  obtain ⟨c7, hN7⟩ := hN6.turn h7
                                  clear h7 hN6
                                  go_upto_if 154 with fail
                                  go_cut [23] (fun s23 wx => s23 = .int .i64 KK ∧ wx = w7)
                                  case first =>
                                    by_cases h16 : K = 16
                                    · obtain ⟨m, hm⟩ : ∃ m, n = m + 1 := ⟨n - 1, by have := hne16 h16; omega⟩
                                      subst hm
                                      obtain ⟨ad, rfl, hbl, c1⟩ := hN7.own.rd.at_ (i := m) (by omega)
                                      have hix : Hid (ix t2.lens m = KK) := by show _ = _; rw [← HKK.out, if_pos h16, ← HNL.out]; rfl
                                      rw [hix.out] at c1
                                      have hmI : (0 : Int) ≤ m ∧ (m : Int) ≤ 400 := by omega
                                      clear HKK hne16 hix
                                      subst h16
                                      go_wp2_with fail
                                      go_meet
                                      exact ⟨rfl, rfl⟩
                                    · have hkf : (K == 16) = false := by simpa using h16
                                      have hz : Hid (Value.int .i64 0 = Value.int .i64 KK) := by show _ = _; rw [← HKK.out, if_neg h16]
                                      clear HKK hne16 h16
                                      go_wp2_with fail
                                      go_meet
                                      exact ⟨hz.out, rfl⟩
                                  case rest =>
                                    obtain ⟨rfl, rfl⟩ := hcut
                                    clear hne16 HKK hTi
                                    by_cases hbig : (A1 : Int) + (B1 : Int) < (n : Int) + (T : Int)
                                    · have hs4 := Lib.hid (hst4.out.trans (if_pos (by have h1 := hcst.out.1; have h2 := hcst.out.2.1; have h3 := HNL.out; omega)))
                                      have x1 := hN7.ref.cell.cell (i := 1) (by omega)
                                      have y1 := hN7.ref.cell.frozen' (i := 1) (by omega)
                                      have h8 := RefS.rebase hN7.ref hN7.de (hN7.ref.refl.put (i := 1) (by omega) (.int .i64 2) { R2 with at_ := R2.at_ + N + W, E := 2 } (all13 rfl rfl rfl rfl rfl rfl rfl rfl rfl rfl rfl rfl rfl) rfl)
                                      clear hst4
                                      go_wp2_with fail
                                      go_ret
                                      exact DynPost.bad hs hs4.out (by decide) (by decide) h8 ⟨hL.out, hL.kinds, hL.stops, hL.toks, rfl⟩
                                    · have hs4 := Lib.hid (hst4.out.trans (if_neg (by have h1 := hcst.out.1; have h2 := hcst.out.2.1; have h3 := HNL.out; omega)))
                                      clear hst4
                                      have hini3 : Hid (RpR w b0 g c (go + 1) gc (hAll lv) { R2 with at_ := R2.at_ + N + W } t2.lens KK T c7 T (.slice Al n cp) (.int .i64 0) wc) := ⟨0, Al, n, cp, Nat.zero_le _, rfl, rfl, rfl, by rw [List.replicate_zero, List.append_nil]; exact hN7⟩
                                      clear hN7
                                      go_wp2_with fail
                                      go_loopg [16, 24] T (RpR w b0 g c (go + 1) gc (hAll lv) { R2 with at_ := R2.at_ + N + W } t2.lens KK T c7)
                                      case atStart => exact hini3.out
                                      case round =>
                                        clear hini3
                                        obtain ⟨jj, A3, n3, cp3, hjj, hkj, rfl, rfl, hN8⟩ := hrel
                                        by_cases hjT : (jj : Int) < (T : Int)
                                        · have hn3 : n3 = (t2.lens ++ List.replicate jj KK).length := hN8.own.1
                                          rw [List.length_append, List.length_replicate, ← HNL.out] at hn3
                                          have hn3b : n3 + 1 ≤ 1000000000000 := by omega
                                          have hoA := hN8.own.alloc (.cells #[.int .i64 KK] 3)
                                          have hb8 := hN8.de.2.1.size
                                          clear hn3
                                          go_wp2_with (at_builtin; (refine wpList_app .i64 w.heap.size 3 i0 8 rfl (.tmp 177) (.tmp 179) _ rfl Try.underlying32 Hi.out Hz0.out Hz1.out Hz2.out rfl hoA rfl (RdI.lit .i64 wr [KK] 3) hn3b (by omega) (by simp; omega) ?_)
                                                       intro A4 d4 w4 hown4 hg4 hat5)
                                          have hN9 := hN8.push hbw KK hg4 hown4 hat5
                                          go_roundg (gk - 1)
                                          case measure => have := hkj.out; omega
                                          case rel => exact ⟨jj + 1, A4, n3 + 1, d4, by omega, by show gk - 1 = _; have := hkj.out; omega, by go_num, rfl, by rw [List.replicate_succ', ← List.append_assoc]; exact hN9⟩
                                        · obtain rfl : jj = T := by omega
                                          have hm4 : Hid (t2.step.1.mu < t2.mu) := IS.mu_step (by rw [hs4.out])
                                          go_wp2_with fail
                                          go_roundg t2.step.1.mu
                                          case measure => have := hk.out; have := hm4.out; omega
                                          case rel =>
                                            have hO2 := hO.step (.inl (by rw [hs4.out]))
                                            have hS2 := IS.Steps.tail hs (by rw [hs4.out])
                                            rw [hs4.out] at hO2 hS2 ⊢
                                            exact ⟨{ R2 with at_ := R2.at_ + N + W }, _, c7, A3, n3, cp3, rfl, hN8, hS2, ⟨hx4.out, hat4.out, hL.out, hL.kinds, hL.stops, hL.toks, hL.most, hL.E, hL.bit, hL.len, hL.even, hL.small, Nat.le_trans hL.tk (by show R2.at_ ≤ R2.at_ + N + W; omega)⟩, hO2, HST3.out, rfl, hcst.out, ⟨hkp.X, hkp.kinds, hkp.stops, Nat.le_trans hkp.le (by show R2.at_ ≤ R2.at_ + N + W; omega)⟩⟩
                    · have hs3 := Lib.hid (hstep2.out.trans (if_pos hE0))
                      have hsy1 : Calls Try.prog 35 #[.pointer (some ⟨g, 0, none⟩), .slice (some ⟨go + 1, 0, none⟩) 19 19, .slice (some ⟨gc, 0, none⟩) 19 19] wr fun e w' => e = .returned (.tuple #[.int .i64 0, .bool false]) ∧ RefS wr c2 w' b0 g { R2 with E := E } := by
                        refine HSY.out.mono ?_
                        rintro e w' (⟨h1, -⟩ | ⟨-, h1, h2⟩)
                        · exact absurd h1 hE0
                        · exact ⟨h1, h2⟩
                      have HSY1 := Lib.hid hsy1
                      have h8 : E ≠ 8 := by rcases herr.out with e | e | e <;> omega
                      have HE0 := Lib.hid hE0
                      have HE8 := Lib.hid h8
                      clear hstep2 hsym herr HSY hsy1 hE0 h8 hxl2
                      go_wp2_with fail
                      refine HSY1.out.mono ?_
                      rintro e w6 ⟨rfl, h6⟩
                      go_wp2_with fail
                      go_ret
                      exact DynPost.bad hs hs3.out HE0.out HE8.out (RefS.rebase hN.ref hN.de h6) ⟨hL.out, hL.kinds, hL.stops, hL.toks, rfl⟩
                  · have hnAB : n = A1 + B1 := by omega
                    have hend := Lib.hid (lens_end hst (by omega))
                    have hcap := hN.own.2.capLe
                    have hsl1 := run_slice_to (P := Try.prog) 32 3 Try.underlying32 Hi.out Hz1.out Al n cp (j := A1) (by omega)
                    have hsl2 := run_slice_from (P := Try.prog) 32 3 Try.underlying32 Hi.out Hz1.out Al n cp (j := A1) (by omega)
                    have y8 := hN.ref.cell.frozen' (i := 8) (by omega)
                    have x8 := hN.ref.cell.cell (i := 8) (by omega)
                    have hM8 := hN.ref.put (i := 8) (by omega) (.slice Al A1 cp) { R2 with Al := .slice Al A1 cp } (all13 rfl rfl rfl rfl rfl rfl rfl rfl rfl rfl rfl rfl rfl) rfl
                    have y9 := hM8.cell.frozen' (i := 9) (by omega)
                    have x9 := hM8.cell.cell (i := 9) (by omega)
                    have hM9 := hM8.put (i := 9) (by omega) (.slice (cutA Al cp A1) (n - A1) (cp - A1)) { R2 with Al := .slice Al A1 cp, Ad := .slice (cutA Al cp A1) (n - A1) (cp - A1) } (all13 rfl rfl rfl rfl rfl rfl rfl rfl rfl rfl rfl rfl rfl) rfl
                    have hneg : blkOf Al ≠ some g := fun e => by have := (hN.row g e).1; rw [hN.ref.cg] at this; exact absurd this (by decide)
                    obtain ⟨w9, hw9⟩ : ∃ w9, (wr.setCell ⟨g, 8, none⟩ (.slice Al A1 cp)).setCell ⟨g, 9, none⟩ (.slice (cutA Al cp A1) (n - A1) (cp - A1)) = w9 := ⟨_, rfl⟩
                    have hown9 : OwnI .i64 w9 w.heap.size 3 Al n cp t2.lens := by rw [← hw9]; exact (hN.own.far (p := ⟨g, 8, none⟩) hneg _).far (p := ⟨g, 9, none⟩) hneg _
                    have hch9 : Chg wr w9 (fun k => c2 k ≠ 0) := by
                      rw [← hw9]
                      exact ((Chg.refl wr (fun k => c2 k ≠ 0)).setCell (p := ⟨g, 8, none⟩) (.inl (by rw [hN.ref.cg]; decide)) _).setCell (p := ⟨g, 9, none⟩) (.inl (by rw [hN.ref.cg]; decide)) _
                    have hD9 : DE b0 w c w9 c2 := hN.de.step hN.ref.lo (fun k hk => (hN.ref.cb k hk).1) hch9 (fun _ _ => rfl)
                    rw [hw9] at hM9
                    have HW9 := Lib.hid hw9
                    obtain ⟨E1, hE1'⟩ : ∃ E, checkOf (t2.lens.take t2.c0) 15 = E := ⟨_, rfl⟩
                    obtain ⟨E2, hE2'⟩ : ∃ E, checkOf (t2.lens.drop t2.c0) 15 = E := ⟨_, rfl⟩
                    have hrl : RdI .i64 w9 w9.heap.size Al A1 (t2.lens.take t2.c0) := by rw [hcst'.1]; exact hown9.rd.pre (by omega)
                    have hrd : RdI .i64 w9 w9.heap.size (cutA Al cp A1) (n - A1) (t2.lens.drop t2.c0) := by rw [hcst'.1]; exact hown9.rd.cutA (by omega) hcap
                    have hC1 := rcheck_any Al A1 cp _ (t2.lens.take t2.c0) 15 w9 hrl (by omega)
                    have hC2 := rcheck_any (cutA Al cp A1) (n - A1) (cp - A1) _ (t2.lens.drop t2.c0) 15 w9 hrd (by omega)
                    rw [hE1'] at hC1
                    rw [hE2'] at hC2
                    have HC1 := Lib.hid hC1
                    have HC2 := Lib.hid hC2
                    obtain ⟨ad, hAd, hbl, c256⟩ := hrl.at_ (i := 256) (by omega)
                    obtain ⟨x, hx⟩ : ∃ x, ix t2.lens 256 = x := ⟨_, rfl⟩
                    have c256b : w9.cell? ⟨ad.block, ad.off + 256, none⟩ = some (.int .i64 x) := by
                      have e : ix (t2.lens.take t2.c0) 256 = x := by rw [← hx]; unfold ix; rw [List.getD_eq_getElem?_getD, List.getD_eq_getElem?_getD, List.getElem?_take, if_pos (by omega)]
                      rw [← e, ← add_pos' ad (k := 256) (by omega)]; exact c256
                    have k8 := hM9.cell.cell (i := 8) (by omega)
                    rw [show sF { R2 with Al := .slice Al A1 cp, Ad := .slice (cutA Al cp A1) (n - A1) (cp - A1) } 8 = .slice Al A1 cp from rfl, hAd] at k8
                    have k9 := hM9.cell.cell (i := 9) (by omega)
                    rw [show sF { R2 with Al := .slice Al A1 cp, Ad := .slice (cutA Al cp A1) (n - A1) (cp - A1) } 9 = .slice (cutA Al cp A1) (n - A1) (cp - A1) from rfl] at k9
                    have k1 := hM9.cell.cell (i := 1) (by omega)
                    have y1 := hM9.cell.frozen' (i := 1) (by omega)
                    have HAD := Lib.hid hAd
                    have hst2 := Lib.hid hend.out
                    rw [hE1', hE2', hx] at hst2
                    have hbad : Hid (RefS w c (w9.setCell ⟨g, 1, none⟩ (.int .i64 3)) b0 g { R2 with Al := .slice Al A1 cp, Ad := .slice (cutA Al cp A1) (n - A1) (cp - A1), E := 3 }) := RefS.rebase hM9 hD9 (hM9.refl.put (i := 1) (by omega) (.int .i64 3) { R2 with Al := .slice Al A1 cp, Ad := .slice (cutA Al cp A1) (n - A1) (cp - A1), E := 3 } (all13 rfl rfl rfl rfl rfl rfl rfl rfl rfl rfl rfl rfl rfl) rfl)
                    have hrowd : 0 < n - A1 → ∀ ad, cutA Al cp A1 = some ad → c2 ad.block = 0 := fun _ ad2 e => by
                      have h1 : ad2.block = (Al.getD ⟨0, 0, none⟩).block ∧ Al.isSome := by
                        unfold cutA at e
                        rw [hAd] at e ⊢
                        split at e <;> (injection e with e; subst e)
                        all_goals first
                          | exact ⟨rfl, rfl⟩
                          | exact ⟨addr_block _ _, rfl⟩
                      rw [h1.1]
                      refine (hN.row _ ?_).1
                      rw [hAd]; rfl
                    have hgood : Hid (¬ (E1 ≠ 0 ∨ E2 ≠ 0 ∨ x = 0) → DynPost w b0 g c R s (.returned (.bool true)) w9) := fun hg => by
                      have hs4 := hst2.out.trans (if_neg hg)
                      have hO2 := hO.step (.inl (by rw [hs4]))
                      have hS2 := IS.Steps.tail hs (by rw [hs4])
                      rw [hs4] at hO2 hS2
                      have hrow := fun q hq => (hN.row q hq).1
                      exact .inl ⟨_, _, c2, Al, A1, cp, cutA Al cp A1, n - A1, cp - A1, rfl, hM9, hD9, hS2, rfl, hO2, ⟨hL.x, hL.le, hL.out, hL.kinds, hL.stops, hL.toks, hL.most, hL.E, hL.bit, hL.len, hL.even, hL.small, hL.tk⟩, rfl, rfl, hrl, hrd, fun _ ad2 e => hrow _ (by rw [e]; rfl), hrowd, ⟨hkp.X, hkp.kinds, hkp.stops, hkp.le⟩⟩
                    have hnI2 : (256 : Int) < (A1 : Int) := by omega
                    clear hw9 hE1' hE2' hx hAd c256 hst hend hown9 hch9 hD9 hM9 hM8 hrl hrd hC1 hC2 hnAB hcst' q1 q2 q3 q4 hin hchk hnl hxl2 hle2 hlen2 hcap
                    by_cases hg : E1 ≠ 0 ∨ E2 ≠ 0 ∨ x = 0
                    · have hs4 := Lib.hid (hst2.out.trans (if_pos hg))
                      have hcs : E1 ≠ 0 ∨ (E1 = 0 ∧ E2 ≠ 0) ∨ (E1 = 0 ∧ E2 = 0 ∧ x = 0) := by omega
                      clear hg hgood hst2
                      rcases hcs with h1 | ⟨h1, h2⟩ | ⟨h1, h2, h3⟩
                      · have hf1 : (E1 == 0) = false := by simpa using h1
                        go_wp2_with fail
                        rw [HW9.out]
                        refine HC1.out.mono ?_
                        rintro e w10 ⟨rfl, rfl⟩
                        go_wp2_with fail
                        go_ret
                        exact DynPost.bad hs hs4.out (by decide) (by decide) hbad.out ⟨hL.out, hL.kinds, hL.stops, hL.toks, rfl⟩
                      · have hf2 : (E2 == 0) = false := by simpa using h2
                        subst h1
                        go_wp2_with fail
                        rw [HW9.out]
                        refine HC1.out.mono ?_
                        rintro e w10 ⟨rfl, rfl⟩
                        go_wp2_with fail
                        refine HC2.out.mono ?_
                        rintro e w11 ⟨rfl, rfl⟩
                        go_wp2_with fail
                        go_ret
                        exact DynPost.bad hs hs4.out (by decide) (by decide) hbad.out ⟨hL.out, hL.kinds, hL.stops, hL.toks, rfl⟩
                      · subst h1 h2 h3
                        go_wp2_with fail
                        rw [HW9.out]
                        refine HC1.out.mono ?_
                        rintro e w10 ⟨rfl, rfl⟩
                        go_wp2_with fail
                        refine HC2.out.mono ?_
                        rintro e w11 ⟨rfl, rfl⟩
                        go_wp2_with fail
                        go_ret
                        exact DynPost.bad hs hs4.out (by decide) (by decide) hbad.out ⟨hL.out, hL.kinds, hL.stops, hL.toks, rfl⟩
                    · have HG := Lib.hid (hgood.out hg)
                      have h1 : E1 = 0 := Decidable.not_not.1 fun h => hg (.inl h)
                      have h2 : E2 = 0 := Decidable.not_not.1 fun h => hg (.inr (.inl h))
                      have h3 : ¬ x = 0 := fun h => hg (.inr (.inr h))
                      have hf3 : (x == 0) = false := by simpa using h3
                      clear hg hgood hst2
                      subst h1 h2
                      go_wp2_with fail
                      rw [HW9.out]
                      refine HC1.out.mono ?_
                      rintro e w10 ⟨rfl, rfl⟩
                      go_wp2_with fail
                      refine HC2.out.mono ?_
                      rintro e w11 ⟨rfl, rfl⟩
                      go_wp2_with fail
                      go_ret
                      exact HG.out
              · have hs3 := Lib.hid (hbd'.out (.inr hnn))
                rw [hck] at HRC
                clear hck hnn hbd' hok'
                go_wp2_with fail
                refine HRC.out.mono ?_
                rintro e w6 ⟨rfl, rfl⟩
                go_wp2_with fail
                go_ret
                exact DynPost.bad hs hs3.out (by decide) (by decide) hbad3.out ⟨hL.out, hL.kinds, hL.stops, hL.toks, rfl⟩
            · have hs3 := Lib.hid (hbd'.out (.inl hck))
              obtain ⟨E7, hE7⟩ : ∃ E, checkOf (hAll lv) 7 = E := ⟨_, rfl⟩
              rw [hE7] at HRC hck
              have hf7 : (E7 == 0) = false := by simpa using hck
              generalize noneB lv = nbv
              clear hE7 hbd' hok'
              cases nbv
              all_goals
                go_wp2_with fail
                refine HRC.out.mono ?_
                rintro e w6 ⟨rfl, rfl⟩
                go_wp2_with fail
                go_ret
                exact DynPost.bad hs hs3.out (by decide) (by decide) hbad3.out ⟨hL.out, hL.kinds, hL.stops, hL.toks, rfl⟩
end
end Go.Proofs.Ytlgkiookobedcaa
