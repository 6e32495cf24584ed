/-
  The walk of the decoder's lengths.
-/
import Derived.Test.YtjeedkjgjfbndaaInfG
namespace Go.Proofs.Ytjeedkjgjfbndaa
open Go.RowKit
set_option linter.unusedVariables false
section
variable {w w' w0 w2 : World} {b0 g : Nat} {c c0 : Nat → Nat} {M M' : DM} {S S' : DS} {s t t' : IS} {b : List Int} {v : Int}
set_option maxHeartbeats 2000000 in
theorem InfS.clearT (h : InfS w0 c0 w b0 g M S) : InfS w0 c0 (w.setCell ⟨g, 13, none⟩ (.pointer none)) b0 g { M with lp := none, lt := none } S ∧ InfS w0 c0 (w.setCell ⟨g, 14, none⟩ (.pointer none)) b0 g { M with dp := none, ds := none } S := by
  obtain ⟨c, h1, hd⟩ := h
  have hap : blkOf M.Ao ≠ some g := fun e => by have := h1.co g e; have := h1.cg; omega
  have hal : blkOf M.Al ≠ some g := fun e => by have := h1.cl g e; have := h1.cg; omega
  have hset : ∀ (i : Nat) (v : Value) (M' : DM), i < 16 → (∀ j, j < 16 → upd (dF M S) i v j = dF M' S j) → M' = { M with hp := M'.hp, lp := M'.lp, dp := M'.dp, hd := M'.hd, lt := M'.lt, ds := M'.ds } →
      (∀ l, M'.hd = some l → TabAt w b0 c M'.hp l) → (∀ l, M'.lt = some l → TabAt w b0 c M'.lp l) → (∀ l, M'.ds = some l → TabAt w b0 c M'.dp l) → InfS w0 c0 (w.setCell ⟨g, i, none⟩ v) b0 g M' S := by
    intro i v M' hi hF hM t1 t2 t3
    have hc : Chg w (w.setCell ⟨g, i, none⟩ v) (fun k => k = g) := (Chg.refl w (fun k => k = g)).setCell (p := ⟨g, i, none⟩) (.inl rfl) v
    have hct : ∀ {p l}, TabAt w b0 c p l → TabAt (w.setCell ⟨g, i, none⟩ v) b0 c p l := fun ht => ht.chg hc (fun k hk => by subst hk; rw [h1.cg]; decide) fun _ _ => rfl
    refine ⟨c, ⟨(h1.cell.set_ hi v).congr hF, h1.cg, ?_, ?_, ?_, ?_, ?_, ?_, ?_, ?_, fun l q => hct (t1 l q), fun l q => hct (t2 l q), fun l q => hct (t3 l q), fun k hk => ⟨(h1.cb k hk).1, Nat.lt_of_lt_of_le (h1.cb k hk).2 hc.size⟩, ?_⟩,
      hd.step h1.lo (fun k hk => (h1.cb k hk).1) (hc.more fun k hk => by subst hk; rw [h1.cg]; decide) fun _ _ => rfl⟩
    all_goals rw [hM]
    · exact h1.rdr.chg hc (fun k hk e => by have := h1.cr k hk; have := h1.cg; subst e; omega)
    · exact h1.cr
    · exact h1.win.chg hc (fun k hk e => by have := h1.cw k hk; have := h1.cg; subst e; omega)
    · exact h1.cw
    · exact hc.ownI h1.out (fun k hk e => by subst e; exact hap hk)
    · exact h1.co
    · exact hc.ownI h1.lens (fun k hk e => by subst e; exact hal hk)
    · exact h1.cl
    · exact h1.bB
  exact ⟨hset 13 _ _ (by omega) (all16 rfl rfl rfl rfl rfl rfl rfl rfl rfl rfl rfl rfl rfl rfl rfl rfl) rfl h1.th (fun l q => by simp at q) h1.td, hset 14 _ _ (by omega) (all16 rfl rfl rfl rfl rfl rfl rfl rfl rfl rfl rfl rfl rfl rfl rfl rfl) rfl h1.th h1.tl (fun l q => by simp at q)⟩
/-- a table, or none -/
def TabOr (w w' : World) (l : List Int) (most : Int) (p : Option Addr) : Prop :=
  Below w.heap.size w w' ∧ ((checkOf l most = 0 ∧ ∃ g, p = some ⟨g, 0, none⟩ ∧ Tab w' w.heap.size w'.heap.size g l) ∨ (checkOf l most ≠ 0 ∧ p = none))
theorem build_any (w : World) (A : Option Addr) (n c B : Nat) (l : List Int) (most : Int) (hr : RdI .i64 w B A n l) (hB : B ≤ w.heap.size) (hn : n ≤ 288) (E : Int) (hE : checkOf l most = E) :
    Calls Try.prog 36 #[.slice A n c, .int .i64 most] w fun e w' => ∃ p, e = .returned (.tuple #[.pointer p, .int .i64 E]) ∧ TabOr w w' l most p := by
  subst hE
  by_cases h : checkOf l most = 0
  · refine (build_ok w A n c B l most hr hB hn h).mono ?_
    rintro e w' ⟨g, rfl, ht, hb⟩
    exact ⟨_, by rw [h], hb, .inl ⟨h, g, rfl, ht⟩⟩
  · refine (build_no w A n c B l most hr (by omega) h).mono ?_
    rintro e w' ⟨rfl, rfl⟩
    exact ⟨_, rfl, Below.refl _ _, .inr ⟨h, rfl⟩⟩
theorem InfS.putP (h : InfS w0 c0 w b0 g M S) {l : List Int} {p : Option Addr} {most : Int} (ht : TabOr w w' l most p) (hl : l.length ≤ 288) :
    (∃ o, (checkOf l most = 0 → o = some l) ∧ InfS w0 c0 (w'.setCell ⟨g, 13, none⟩ (.pointer p)) b0 g { M with lp := p, lt := o } S) ∧
    (∃ o, (checkOf l most = 0 → o = some l) ∧ InfS w0 c0 (w'.setCell ⟨g, 14, none⟩ (.pointer p)) b0 g { M with dp := p, ds := o } S) := by
  obtain ⟨hb, ⟨h0, gt, rfl, h2⟩ | ⟨h0, rfl⟩⟩ := ht
  · obtain ⟨-, a, b⟩ := h.putT hb h2 hl
    exact ⟨⟨_, fun _ => rfl, a⟩, ⟨_, fun _ => rfl, b⟩⟩
  · obtain ⟨a, b⟩ := (h.keeps hb).clearT
    exact ⟨⟨_, fun e => absurd e h0, a⟩, ⟨_, fun e => absurd e h0, b⟩⟩
def LensR (w0 : World) (c0 : Nat → Nat) (b0 g : Nat) (M : DM) (S : DS) (s : IS) (k : Nat) (wr : World) : Prop :=
  ∃ M' t, InfS w0 c0 wr b0 g M' S ∧ IS.Steps s t ∧ Live M' S t ∧ t.Ok ∧ t.st = 5 ∧ M'.out = M.out ∧ t.all = s.all ∧ Hid (k = t.mu) ∧ Hid (t.mu ≤ s.mu)
theorem add_pos' (a : Addr) {k : Nat} (h : k ≠ 0) : a.add k = ⟨a.block, a.off + k, none⟩ := by unfold Addr.add; rw [if_neg h]
def LenC1 (w0 : World) (c0 : Nat → Nat) (b0 g : Nat) (M : DM) (S : DS) (l : List Int) (wx : World) : Prop := ∃ p o, (checkOf l 15 = 0 → o = some l) ∧ InfS w0 c0 wx b0 g { M with lp := p, lt := o } S
def LenC2 (w0 : World) (c0 : Nat → Nat) (b0 g : Nat) (M : DM) (S : DS) (l : List Int) (wx : World) : Prop := ∃ p o, (checkOf l 15 = 0 → o = some l) ∧ InfS w0 c0 wx b0 g { M with dp := p, ds := o } S
theorem lens_end (h : t.st = 5) (hl : ¬ t.lens.length < t.c0 + t.c1) : t.step = if checkOf (t.lens.take t.c0) 15 ≠ 0 ∨ checkOf (t.lens.drop t.c0) 15 ≠ 0 ∨ ix t.lens 256 = 0 then (t, 3) else ({ t with lt := t.lens.take t.c0, ds := t.lens.drop t.c0, st := 6 }, 0) := by
  unfold IS.step; rw [if_neg (by omega), if_neg (by omega), if_neg (by omega), if_neg (by omega), if_neg (by omega), if_pos h]; unfold IS.lengths; rw [if_neg hl]
set_option maxRecDepth 100000 in
set_option maxHeartbeats 2000000 in
theorem dlengths_any (h : InfS w0 c0 w b0 g M S) (hL : Live M S s) (hO : s.Ok) (hst : s.st = 5) :
    Calls Try.prog 30 #[.pointer (some ⟨g, 0, none⟩)] w (StepPost w0 c0 b0 g M s) := by
  obtain ⟨i0, hi, hz0, hz1, hz2⟩ := info_parts xint_info
  have Hi := Lib.hid hi
  have Hz0 := Lib.hid hz0
  have Hz1 := Lib.hid hz1
  have Hz2 := Lib.hid hz2
  clear hi hz0 hz1 hz2
  go_enter Try.func30, Try.ntmps30
  go_wp2
  go_loopg [] s.mu (LensR w0 c0 b0 g M S s)
  case atStart => exact ⟨M, s, h, .refl s, hL, hO, hst, rfl, rfl, rfl, Nat.le_refl _⟩
  case round =>
    clear h hL hO hst
    obtain ⟨M1, t, h, hs, hL, hO, hst, ho, hall, hk, hmu⟩ := hrel
    obtain ⟨hs5, hs5b, hs5c, hs5d⟩ := hO.h5 hst
    have hcc := hO.cc (.inr hst)
    obtain ⟨-, -, -, -, -, -, -, -, k8, k9, -, k11, -⟩ := h.cells
    have hnl := h.lens.1
    rw [hL.lens] at hnl
    have hcI : (0 : Int) ≤ M1.nl ∧ (M1.nl : Int) ≤ 316 ∧ (257 : Int) ≤ S.c0 ∧ (S.c0 : Int) ≤ 286 ∧ (1 : Int) ≤ S.c1 ∧ (S.c1 : Int) ≤ 30 ∧ (M1.nl : Int) ≤ (S.c0 : Int) + (S.c1 : Int) := by have := hL.c0; have := hL.c1; omega
    have HC0 := Lib.hid hL.c0
    have HC1 := Lib.hid hL.c1
    have HNL := Lib.hid hnl
    have HST := Lib.hid hst
    have hsum2 : IntKind.i64.wrap ((S.c0 : Int) + (S.c1 : Int)) = (S.c0 : Int) + (S.c1 : Int) := IntWalk.i64_in _ (by omega)
    by_cases hlt : (M1.nl : Int) < (S.c0 : Int) + (S.c1 : Int)
    · have hln := dlength_any h.drew hL hO hst (by have := HC0.out; have := HC1.out; have := HNL.out; omega)
      have HLN := Lib.hid hln
      clear hln hnl hst hs5 hs5b hs5c hs5d hcc
      go_wp2_with fail
      go_region
      all_goals
        go_wp2_with fail
        refine HLN.out.mono ?_
        rintro e w1 ⟨M2, v, t2, rfl, h2, ho2, hall2, hcs⟩
        rcases hcs with ⟨rfl, hs2, hst2, hL2⟩ | ⟨rfl, hs2, rfl, hL2⟩ | ⟨hv0, hv5, hv8, hs2⟩
        · have HS2 := Lib.hid hs2
          have HST2 := Lib.hid hst2
          have HO2 := Lib.hid ho2
          have HA2 := Lib.hid hall2
          have hm2 : Hid (t2.mu < t.mu) := by have := IS.mu_step (s := t) (by rw [hs2]); rw [hs2] at this; exact this
          clear hs2 hst2 ho2 hall2
          go_wp2_with fail
          go_roundg t2.mu
          case measure => have := hk.out; have := hm2.out; omega
          case rel =>
            have hO2 := hO.step (.inl (by rw [HS2.out]))
            have hst3 := IS.Steps.tail hs (by rw [HS2.out])
            rw [HS2.out] at hO2 hst3
            exact ⟨M2, t2, h2, hst3, hL2, hO2, HST2.out, HO2.out.trans ho, HA2.out.trans hall, rfl, Nat.le_trans (Nat.le_of_lt hm2.out) hmu.out⟩
        · have HS2 := Lib.hid hs2
          have HO2 := Lib.hid ho2
          clear hs2 ho2 hall2
          go_wp2_with fail
          go_ret
          exact StepPost.after hs hmu.out hall ho (StepPost.lack HS2.out h2 hL2 HO2.out)
        · have HS2 := Lib.hid hs2
          have HO2 := Lib.hid ho2
          have HA2 := Lib.hid hall2
          have hvf : (v == 0) = false := by simpa using hv0
          clear hs2 ho2 hall2
          go_wp2_with fail
          go_ret
          exact StepPost.after hs hmu.out hall ho (StepPost.bad0 HS2.out hv0 hv5 hv8 HA2.out h2 hL.err HO2.out)
    · have hlt2 : ¬ t.lens.length < t.c0 + t.c1 := by have := HC0.out; have := HC1.out; have := HNL.out; omega
      have hend := Lib.hid (lens_end hst hlt2)
      have hcap := h.lens.2.capLe
      have hnlc : M1.nl = S.c0 + S.c1 := by omega
      obtain ⟨E1, hE1⟩ : ∃ E, checkOf (t.lens.take t.c0) 15 = E := ⟨_, rfl⟩
      obtain ⟨E2, hE2⟩ : ∃ E, checkOf (t.lens.drop t.c0) 15 = E := ⟨_, rfl⟩
      have hsl1 := run_slice_to (P := Try.prog) 38 3 Try.underlying38 Hi.out Hz1.out M1.Al M1.nl M1.cl (j := S.c0) (by omega)
      have hsl2 := run_slice_from (P := Try.prog) 38 3 Try.underlying38 Hi.out Hz1.out M1.Al M1.nl M1.cl (j := S.c0) (by omega)
      have HB1 : Hid (∀ W, OwnI .i64 W b0 3 M1.Al M1.nl M1.cl M1.lens → Calls Try.prog 36 #[.slice M1.Al S.c0 M1.cl, .int .i64 15] W fun e w' => ∃ p, e = .returned (.tuple #[.pointer p, .int .i64 E1]) ∧ TabOr W w' (t.lens.take t.c0) 15 p) := fun W hW => by
        rw [← HC0.out, ← hL.lens]
        exact build_any W M1.Al S.c0 M1.cl _ _ 15 (hW.rd.pre (by omega)) (Nat.le_refl _) (by omega) E1 (by rw [HC0.out, hL.lens]; exact hE1)
      have HB2 : Hid (∀ W, OwnI .i64 W b0 3 M1.Al M1.nl M1.cl M1.lens → Calls Try.prog 36 #[.slice (cutA M1.Al M1.cl S.c0) (M1.nl - S.c0) (M1.cl - S.c0), .int .i64 15] W fun e w' => ∃ p, e = .returned (.tuple #[.pointer p, .int .i64 E2]) ∧ TabOr W w' (t.lens.drop t.c0) 15 p) := fun W hW => by
        rw [← HC0.out, ← hL.lens]
        exact build_any W (cutA M1.Al M1.cl S.c0) (M1.nl - S.c0) (M1.cl - S.c0) _ _ 15 (hW.rd.cutA (by omega) hcap) (Nat.le_refl _) (by omega) E2 (by rw [HC0.out, hL.lens]; exact hE2)
      have HE1 := Lib.hid hE1
      have HE2 := Lib.hid hE2
      have hln1 : Hid ((t.lens.take t.c0).length ≤ 288 ∧ (t.lens.drop t.c0).length ≤ 288) := by
        show _ ∧ _
        rw [List.length_take, List.length_drop]
        have := HC0.out; have := HC1.out; have := HNL.out
        omega
      have HCAP := Lib.hid hcap
      have HNLC := Lib.hid hnlc
      have hnI : (256 : Int) < (M1.nl : Int) := by omega
      clear hE1 hE2 hcap hnlc hlt2 hst hs5 hs5b hs5c hs5d hcc hnl
      have hd := h.drew
      go_wp2_with fail
      go_region
      all_goals
        go_wp2_with fail
        go_cut [4] (fun s4 wx => s4 = .int .i64 E1 ∧ LenC1 w0 c0 b0 g M1 S (t.lens.take t.c0) wx)
        case first =>
          go_region_law
            ((go_simp; go_at_call 36; (refine (HB1.out _ (by first | exact h.drew.drew.lens | exact h.drew.lens | exact (h.drewN _).lens)).mono ?_))
             rintro e w5 ⟨p, rfl, hT⟩
             have h5k := InfS.keeps (by first | exact h.drew.drew | exact h.drew | exact h.drewN _) hT.1
             have z13 := h5k.cell.frozen' (i := 13) (by omega)
             have k13 := h5k.cell.cell (i := 13) (by omega))
          all_goals
            have hfin : LenC1 w0 c0 b0 g M1 S (t.lens.take t.c0) (w5.setCell ⟨g, 13, none⟩ (.pointer p)) := by
              obtain ⟨⟨o, h1, h2⟩, -⟩ := InfS.putP (by first | exact h.drew.drew | exact h.drew | exact h.drewN _) hT hln1.out.1
              exact ⟨p, o, h1, h2⟩
            go_wp2_with fail
            go_meet
            exact ⟨rfl, hfin⟩
        case rest =>
          obtain ⟨rfl, p1, o1, ho1, h1⟩ := hcut
          have HO1 := Lib.hid ho1
          clear ho1 k8 k9 k11 hd
          obtain ⟨-, -, -, -, -, -, -, -, k8, k9, -, k11, -⟩ := h1.cells
          go_wp2_with fail
          go_cut [5] (fun s5 wx => s5 = .int .i64 E2 ∧ LenC2 w0 c0 b0 g { M1 with lp := p1, lt := o1 } S (t.lens.drop t.c0) wx)
          case first =>
            go_region_law
              ((go_simp; go_at_call 36; (refine (HB2.out _ (by first | exact h1.lens | exact h1.drew.lens | exact (h1.drewN _).lens)).mono ?_))
               rintro e w5 ⟨p, rfl, hT⟩
               have h5k := InfS.keeps (by first | exact h1 | exact h1.drew | exact h1.drewN _) hT.1
               have z14 := h5k.cell.frozen' (i := 14) (by omega)
               have k14 := h5k.cell.cell (i := 14) (by omega))
            all_goals
              have hfin : LenC2 w0 c0 b0 g { M1 with lp := p1, lt := o1 } S (t.lens.drop t.c0) (w5.setCell ⟨g, 14, none⟩ (.pointer p)) := by
                obtain ⟨-, ⟨o, h1, h2⟩⟩ := InfS.putP (by first | exact h1 | exact h1.drew | exact h1.drewN _) hT hln1.out.2
                exact ⟨p, o, h1, h2⟩
              go_wp2_with fail
              go_meet
              exact ⟨rfl, hfin⟩
          case rest =>
            obtain ⟨rfl, p2, o2, ho2, h2⟩ := hcut
            have HO2 := Lib.hid ho2
            clear ho2 k8 k9 k11
            obtain ⟨-, -, -, -, -, k5, -, -, -, -, -, k11, -⟩ := h2.cells
            have z5 := h2.cell.frozen' (i := 5) (by omega)
            obtain ⟨ad, hA, hbl, c256⟩ := h2.lens.rd.at_ (i := 256) (by show 256 < M1.nl; omega)
            have hA2 : M1.Al = some ad := hA
            obtain ⟨x, hx⟩ : ∃ x, ix M1.lens 256 = x := ⟨_, rfl⟩
            have c256b : wc.cell? ⟨ad.block, ad.off + 256, none⟩ = some (.int .i64 x) := by rw [← hx, ← add_pos' ad (k := 256) (by omega)]; exact c256
            have hx2 : Hid (ix t.lens 256 = x) := by show _ = _; rw [← hL.lens]; exact hx
            have k11b : wc.cell? ⟨g, 11, none⟩ = some (.slice (some ad) M1.nl M1.cl) := by rw [← hA2]; exact k11
            obtain ⟨Bd, hBd⟩ : ∃ Bd, decide (E1 ≠ 0 ∨ E2 ≠ 0 ∨ x = 0) = Bd := ⟨_, rfl⟩
            have HBd := Lib.hid hBd
            have HA := Lib.hid hA2
            have h3 : InfS w0 c0 wc b0 g { M1 with lp := p1, lt := o1, dp := p2, ds := o2 } S := h2
            clear hBd hA hA2 hx c256 k11 h1 h2
            go_upto_region 8 with fail
            go_cut [76] (fun s wx => s = .bool Bd ∧ wx = wc)
            case first =>
              by_cases e1 : E1 = 0
              · by_cases e2 : E2 = 0
                · by_cases e3 : x = 0
                  · have hd : Hid (true = Bd) := by show _ = _; rw [← HBd.out]; exact (decide_eq_true (.inr (.inr e3))).symm
                    clear HBd
                    subst e1 e2 e3
                    go_wp2_with fail
                    go_meet
                    exact ⟨congrArg Value.bool hd.out, rfl⟩
                  · have hd : Hid (false = Bd) := by show _ = _; rw [← HBd.out]; exact (decide_eq_false (fun h => by rcases h with h | h | h; exact h e1; exact h e2; exact e3 h)).symm
                    have hxf : (x == 0) = false := by simpa using e3
                    clear HBd
                    subst e1 e2
                    go_wp2_with fail
                    go_meet
                    exact ⟨congrArg Value.bool hd.out, rfl⟩
                · have hd : Hid (true = Bd) := by show _ = _; rw [← HBd.out]; exact (decide_eq_true (.inr (.inl e2))).symm
                  have hxf : (E2 == 0) = false := by simpa using e2
                  clear HBd
                  subst e1
                  go_wp2_with fail
                  go_meet
                  exact ⟨congrArg Value.bool hd.out, rfl⟩
              · have hd : Hid (true = Bd) := by show _ = _; rw [← HBd.out]; exact (decide_eq_true (.inl e1)).symm
                have hxf : (E1 == 0) = false := by simpa using e1
                clear HBd
                go_wp2_with fail
                go_meet
                exact ⟨congrArg Value.bool hd.out, rfl⟩
            case rest =>
              obtain ⟨rfl, rfl⟩ := hcut
              have hst2 := Lib.hid hend.out
              rw [HE1.out, HE2.out, hx2.out] at hst2
              clear hend
              by_cases hbad : E1 ≠ 0 ∨ E2 ≠ 0 ∨ x = 0
              · have hs2 := Lib.hid (hst2.out.trans (if_pos hbad))
                rw [← HBd.out, decide_eq_true hbad]
                clear hbad hst2 HBd
                go_wp2_with fail
                go_ret
                exact StepPost.after hs hmu.out hall ho (StepPost.bad0 hs2.out (by decide) (by decide) (by decide) rfl h3 hL.err rfl)
              · have hs2 := Lib.hid (hst2.out.trans (if_neg hbad))
                have hl1 := Lib.hid (HO1.out (by rw [HE1.out]; exact Decidable.not_not.1 fun h => hbad (.inl h)))
                have hl2 := Lib.hid (HO2.out (by rw [HE2.out]; exact Decidable.not_not.1 fun h => hbad (.inr (.inl h))))
                rw [← HBd.out, decide_eq_false hbad]
                have h4 := h3.put (i := 5) (by omega) (.int .i64 6) { S with st := 6 } (all16 rfl rfl rfl rfl rfl rfl rfl rfl rfl rfl rfl rfl rfl rfl rfl rfl)
                clear hbad hst2 HBd
                go_wp2_with fail
                go_ret
                exact StepPost.after hs hmu.out hall ho (StepPost.go0 hs2.out rfl h4 ⟨hL.x, rfl, hL.last, hL.left, hL.c0, hL.c1, hL.c2, hL.lens, fun e => by simp at e, fun _ => hl1.out, fun _ => hl2.out, fun e => by simp at e, hL.tail, hL.rem, hL.err⟩ rfl)
end
end Go.Proofs.Ytjeedkjgjfbndaa
