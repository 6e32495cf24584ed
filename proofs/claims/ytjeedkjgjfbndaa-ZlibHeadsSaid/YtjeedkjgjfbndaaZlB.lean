/-
  The walk of a zlib decoder's begin.
-/
import Derived.Test.YtjeedkjgjfbndaaZlA
import Derived.Deep.QuietTactic
import Derived.BigQuiet
namespace Go.Proofs.Ytjeedkjgjfbndaa
open Go.RowKit
set_option linter.unusedVariables false
theorem u8_and15 : ∀ V : Fin 256, bits .and .u8 (V.val : Int) 15 = (V.val : Int) % 16 := by decide +kernel
theorem u8_and32 : ∀ V : Fin 256, bits .and .u8 (V.val : Int) 32 = 32 * ((V.val : Int) / 32 % 2) := by decide +kernel
theorem and15 {v : Int} (h : 0 ≤ v ∧ v < 256) : bits .and .u8 v 15 = v % 16 := by
  obtain ⟨n, rfl⟩ := Int.eq_ofNat_of_zero_le h.1
  exact u8_and15 ⟨n, by omega⟩
theorem and32 {v : Int} (h : 0 ≤ v ∧ v < 256) : bits .and .u8 v 32 = 32 * (v / 32 % 2) := by
  obtain ⟨n, rfl⟩ := Int.eq_ofNat_of_zero_le h.1
  exact u8_and32 ⟨n, by omega⟩
theorem or8 {u v : Int} (hu : 0 ≤ u ∧ u < 256) (hv : 0 ≤ v ∧ v < 256) : bits .or .i64 (u * 256) v = u * 256 + v := by
  obtain ⟨a, rfl⟩ := Int.eq_ofNat_of_zero_le hu.1
  obtain ⟨b, rfl⟩ := Int.eq_ofNat_of_zero_le hv.1
  have h1 : bits .or .i64 (((a * 256 : Nat) : Int)) ((b : Nat) : Int) = (((a * 256) ||| b : Nat) : Int) := or_i64_nat _ _ (by omega) (by omega)
  have e : a * 256 = a <<< 8 := by rw [Nat.shiftLeft_eq]
  rw [e, ← Nat.shiftLeft_add_eq_or_of_lt (show b < 2 ^ 8 by omega)] at h1
  rw [Nat.shiftLeft_eq] at h1
  have e2 : ((a : Int)) * 256 = ((a * 2 ^ 8 : Nat) : Int) := by omega
  rw [e2, h1]; omega
/-- the step's answer: nothing, or the fault -/
def BegPost (w : World) (b0 g : Nat) (E : Nat → Prop) (x : List Int) (m : Nat) (en : Bool) (e : Ending) (w' : World) : Prop :=
  (zHd x ≠ 0 ∧ e = .returned (.int .i64 (zHd x)) ∧ ∃ q, w' = w.drewN q) ∨ (zHd x = 0 ∧ e = .returned (.int .i64 0) ∧ ∃ c Z, ZlC w' b0 g c Z ∧ ZPh w' (g + 1) c x [] Z ∧ Z.m = m ∧ Z.en = en ∧ Z.sum = 1 ∧ Z.err = 0 ∧ Z.p ≠ none ∧ Z.beh = false ∧ Ext b0 w w' E (zX g c Z.A))
theorem ix_mem0 {x : List Int} {i : Nat} (h : i < x.length) : ix x i ∈ x := by
  have e : ix x i = x[i] := by simp [ix, h]
  rw [e]; exact List.getElem_mem h
theorem zhd_nil : zHd [] = 5 := by decide
theorem zhd_bad {x : List Int} (h : 1 ≤ x.length) (h2 : ix x 0 % 16 ≠ 8 ∨ 7 < ix x 0 / 16) : zHd x = 2 := if_pos ⟨h, h2⟩
theorem zhd_one {x : List Int} (h : x.length = 1) (h2 : ix x 0 % 16 = 8) (h3 : ¬ 7 < ix x 0 / 16) : zHd x = 5 := by
  unfold zHd; rw [if_neg (by rintro ⟨_, h | h⟩ <;> omega), if_pos (by omega)]
theorem zhd_bad2 {x : List Int} (h : 2 ≤ x.length) (h2 : ix x 0 % 16 = 8) (h3 : ¬ 7 < ix x 0 / 16) (h4 : (256 * ix x 0 + ix x 1) % 31 ≠ 0 ∨ ix x 1 / 32 % 2 ≠ 0) : zHd x = 2 := by
  unfold zHd; rw [if_neg (by rintro ⟨_, h | h⟩ <;> omega), if_neg (by omega), if_pos h4]
theorem zhd_ok {x : List Int} (h : 2 ≤ x.length) (h2 : ix x 0 % 16 = 8) (h3 : ¬ 7 < ix x 0 / 16) (h4 : (256 * ix x 0 + ix x 1) % 31 = 0) (h5 : ix x 1 / 32 % 2 = 0) : zHd x = 0 := by
  unfold zHd; rw [if_neg (by rintro ⟨_, h | h⟩ <;> omega), if_neg (by omega), if_neg (by rintro (h | h) <;> omega)]
set_option maxRecDepth 100000 in
set_option maxHeartbeats 4000000 in
theorem zbegin_any (w : World) (b0 g : Nat) (c : Nat → Nat) (Z : ZR) (x : List Int) (h1 : ZlC w b0 g c Z) (hp : Z.p = none) (hbeh : Z.beh = false) (hovr : Z.ovr = false) (hl : Z.l = x) (hc0 : ∀ k, c k = 0) (herr : Z.err = 0) (hm : Z.m ≤ 1000000000) (hsum : Z.sum = 1) (hxl : x.length ≤ 100000000000) :
    Calls Try.prog 12 #[.pointer (some ⟨g, 0, none⟩)] w (BegPost w b0 g (zX g c Z.A) x Z.m Z.en) := by
  obtain ⟨i0, hi, hz0, hz1, hz2⟩ := info_parts rbyte_info
  have Hi := Lib.hid hi
  have Hz1 := Lib.hid hz1
  clear hi hz0 hz1 hz2
  obtain ⟨k0, k1, k2, -⟩ := h1.cells
  have ho := h1.own
  have hnl := ho.rd.1
  have hby := h1.by_
  rw [hl] at hnl ho hby
  rw [hp] at k2
  obtain ⟨A, hA⟩ : ∃ A, Z.A = A := ⟨_, rfl⟩
  obtain ⟨n, hn⟩ : ∃ n, Z.n = n := ⟨_, rfl⟩
  obtain ⟨d, hd⟩ : ∃ d, Z.cp = d := ⟨_, rfl⟩
  rw [hA, hn, hd] at k1 ho
  rw [hn] at hnl
  have HNL := Lib.hid hnl
  have hnI : (n : Int) ≤ 100000000000 ∧ (0 : Int) ≤ n := by omega
  have HZ := Lib.hid (⟨hA, hn, hd⟩ : _ ∧ _ ∧ _)
  have HLX := Lib.hid hl
  have bad : Hid (∀ v, zHd x = v → v ≠ 0 → ∀ q, BegPost w b0 g (zX g c Z.A) x Z.m Z.en (.returned (.int .i64 v)) (w.drewN q)) := fun v hv h0 q => .inl ⟨by rw [hv]; exact h0, by rw [hv], q, rfl⟩
  by_cases hn0 : n = 0
  · subst hn0
    have hx : x = [] := List.eq_nil_of_length_eq_zero hnl.symm
    have hb := Lib.hid (bad.out 5 (by rw [hx]; exact zhd_nil) (by decide) 0)
    clear hnl hl hby hA hn hd bad h1 ho hx
    go_enter Try.func12, Try.ntmps12
    go_wp2_with fail
    go_ret
    exact hb.out
  · obtain ⟨gA, off, rfl⟩ := ho.addr (by omega)
    have hx1 : 1 ≤ x.length := by omega
    have e0 := ho.cell (i := 0) (by omega)
    obtain ⟨v0, hv0⟩ : ∃ v, ix x 0 = v := ⟨_, rfl⟩
    have hv0b : 0 ≤ v0 ∧ v0 < 256 := by rw [← hv0]; exact hby _ (ix_mem0 hx1)
    rw [hv0] at e0
    have e0' : w.cell? ⟨gA, off, none⟩ = some (.int .u8 v0) := e0
    have h15 := and15 hv0b
    have hn1I : (0 : Int) < (n : Int) ∧ 0 < n := by omega
    have HV0 := Lib.hid hv0
    clear hv0
    by_cases hg1 : v0 % 16 = 8
    · have hg1' : (v0 % 16 == 8) = true := by simpa using hg1
      by_cases hg2 : 7 < v0 / 16
      · have hb := Lib.hid (bad.out 2 (zhd_bad hx1 (by rw [HV0.out]; exact .inr hg2)) (by decide) 0)
        clear hnl hl hby hA hn hd bad h1 ho hn0 hx1
        go_enter Try.func12, Try.ntmps12
        go_wp2_with fail
        go_ret
        exact hb.out
      · have hg2' : decide (7 < v0 / 16) = false := decide_eq_false hg2
        by_cases hn2 : n = 1
        · subst hn2
          have hb := Lib.hid (bad.out 5 (zhd_one (by omega) (by rw [HV0.out]; exact hg1) (by rw [HV0.out]; exact hg2)) (by decide) 0)
          clear hnl hl hby hA hn hd bad h1 ho hn0 hx1 hg2
          go_enter Try.func12, Try.ntmps12
          go_wp2_with fail
          go_ret
          exact hb.out
        · have hx2 : 2 ≤ x.length := by omega
          have e1 := ho.cell (i := 1) (by omega)
          obtain ⟨v1, hv1⟩ : ∃ v, ix x 1 = v := ⟨_, rfl⟩
          have hv1b : 0 ≤ v1 ∧ v1 < 256 := by rw [← hv1]; exact hby _ (ix_mem0 (by omega))
          rw [hv1] at e1
          have h32 := and32 hv1b
          have hor := or8 hv0b hv1b
          have hn2I : ¬ (n : Int) < 2 ∧ (1 : Int) < (n : Int) ∧ 1 < n := by omega
          have hn2d : decide ((n : Int) < 2) = false := decide_eq_false (by omega)
          have hn2e : ¬ n < 2 := by omega
          have HV1 := Lib.hid hv1
          have HG := Lib.hid (⟨hg1, hg2⟩ : _ ∧ _)
          obtain ⟨D, hD⟩ : ∃ D, v0 * 256 + v1 = D := ⟨_, rfl⟩
          obtain ⟨Q, hQ⟩ : ∃ Q, v1 / 32 % 2 = Q := ⟨_, rfl⟩
          have HDQ := Lib.hid (⟨hD, hQ⟩ : _ ∧ _)
          have hQb : Q = 0 ∨ Q = 1 := by omega
          have hDb : 0 ≤ D ∧ D < 65536 := by omega
          rw [hD] at hor
          rw [hQ] at h32
          have hw1 : IntKind.i64.wrap (v0 * 256) = v0 * 256 := IntWalk.i64_in _ (by omega)
          clear hv1 hD hQ
          by_cases hd1 : D % 31 = 0
          · have hd1' : (D % 31 == 0) = true := by simpa using hd1
            rcases hQb with rfl | rfl
            · have hz : zHd x = 0 := zhd_ok hx2 (by rw [HV0.out]; exact HG.out.1) (by rw [HV0.out]; exact HG.out.2) (by rw [HV0.out, HV1.out]; have := HDQ.out.1; omega) (by rw [HV1.out]; exact HDQ.out.2)
              have HZD := Lib.hid hz
              have hsl := run_slice_from (P := Try.prog) 26 5 Try.underlying26 Hi.out Hz1.out (some ⟨gA, off, none⟩) n d (j := 2) (by omega)
              rw [show ((2 : Nat) : Int) = 2 from rfl] at hsl
              obtain ⟨J, hJ⟩ : ∃ J, n - 2 = J := ⟨_, rfl⟩
              rw [hJ] at hsl
              have HJ := Lib.hid hJ
              have H1 := Lib.hid h1
              have HO := Lib.hid ho
              have HBY := Lib.hid hby
              have HX2 := Lib.hid hx2
              clear hnl hl hby hn hd bad hn0 hx1 hg2 hn2 hx2 hz hJ
              go_enter Try.func12, Try.ntmps12
              go_wp2_with fail
              go_quiet (fail)
              have h1q : ZlC (w.drewN nq) b0 g c Z := H1.out.keeps ((Chg.drewN (Chg.refl w (fun _ => False)) nq).below (fun _ h => h.elim) (Nat.le_refl _))
              have hoq := HO.out.drewN nq
              have hext : Hid (Ext b0 w (w.drewN nq) (zX g c Z.A) (zX g c Z.A)) := ⟨(Chg.drewN (Chg.refl w (fun _ => False)) nq).below (fun _ h => h.elim) H1.out.low, Chg.drewN (Chg.refl _ _) nq, fun k hk => .inl hk⟩
              have k0' : (w.drewN nq).cell? ⟨g, 0, none⟩ = some (.int .i64 Z.m) := k0
              revert h1q hoq hext k0'
              generalize w.drewN nq = wq
              intro h1q hoq hext k0'
              have hgq := h1q.cell.lt
              have hgq' : g + 1 ≤ wq.heap.size := hgq
              go_wp2_with fail
              refine (dnew_any wq Z.m Z.m (by omega)).mono ?_
              rintro e w1 ⟨gd, c1, M, S, rfl, hM, hb1, hMB, hMa, hMo, hL⟩
              have h1w := h1q.keeps hb1
              have hc1g : c1 g = 0 := by
                by_cases e : c1 g = 0
                · exact e
                · have := (hM.cb g e).1; omega
              have z2 := h1w.frz (i := 2) (by omega)
              obtain ⟨-, -, kk2, -⟩ := h1w.cells
              have hcp : Chg w1 (w1.setCell ⟨g, 2, none⟩ (.pointer (some ⟨gd, 0, none⟩))) (fun k => k = g) := Chg.setCell (S := fun k => k = g) (Chg.refl w1 _) (p := ⟨g, 2, none⟩) (.inl rfl) _
              have h2w : ZlC (w1.setCell ⟨g, 2, none⟩ (.pointer (some ⟨gd, 0, none⟩))) b0 g c { Z with p := some ⟨gd, 0, none⟩ } := h1w.turn hcp ((h1w.cell.set_ (i := 2) (by omega) _).congr (all8 rfl rfl rfl rfl rfl rfl rfl rfl)) ⟨rfl, rfl, rfl, rfl⟩ h1w.sm
              have hM2 := hM.aside hcp (fun k hk => by rw [hk]; exact hc1g)
              have hc12 : Hid (Chg wq (w1.setCell ⟨g, 2, none⟩ (.pointer (some ⟨gd, 0, none⟩))) (fun k => k = g)) := Chg.setCell (S := fun k => k = g) (Chg.of_below hb1) (p := ⟨g, 2, none⟩) (.inl rfl) _
              clear h1w hM hcp hb1 hoq
              go_upto_region 7 with fail
              revert h2w hM2 hc12
              generalize w1.setCell ⟨g, 2, none⟩ (.pointer (some ⟨gd, 0, none⟩)) = w2
              intro h2w hM2 hc12
              obtain ⟨-, k1', k2', -⟩ := h2w.cells
              replace k1' : w2.cell? ⟨g, 1, none⟩ = some (.slice (some ⟨gA, off, none⟩) n d) := by rw [k1', ← HZ.out.1, ← HZ.out.2.1, ← HZ.out.2.2]
              replace k2' : w2.cell? ⟨g, 2, none⟩ = some (.pointer (some ⟨gd, 0, none⟩)) := k2'
              have hown2 : OwnO .u8 w2 b0 5 (some ⟨gA, off, none⟩) n d x := by
                have h := h2w.own
                rw [show ({ Z with p := some ⟨gd, 0, none⟩ } : ZR).l = x from HLX.out, show ({ Z with p := some ⟨gd, 0, none⟩ } : ZR).A = some ⟨gA, off, none⟩ from HZ.out.1, show ({ Z with p := some ⟨gd, 0, none⟩ } : ZR).n = n from HZ.out.2.1, show ({ Z with p := some ⟨gd, 0, none⟩ } : ZR).cp = d from HZ.out.2.2] at h
                exact h
              have hcut := (hown2.cut (j := 2) (by have := HNL.out; have := HX2.out; omega)).rd
              rw [HJ.out] at hcut
              have hcutd : RdI .u8 w2.drew w2.heap.size (cutA (some ⟨gA, off, none⟩) d 2) J (x.drop 2) := hcut
              have hI2 : InfS w2 c1 w2.drew wq.heap.size gd M S := hM2.refl.drew
              have hfd := dfeed_any hI2 w2.heap.size J (d - 2) _ (x.drop 2) hcutd (Nat.le_refl _) (fun v hv => HBY.out v (List.mem_of_mem_drop hv)) (by rw [hMB, List.length_drop]; simp; omega)
              have HFD := Lib.hid hfd
              have HI2 := Lib.hid hM2.refl
              have HMM := Lib.hid (⟨hMB, hMa, hMo, hL⟩ : _ ∧ _ ∧ _ ∧ _)
              clear hfd hM2 hown2 hMB hMa hMo hL kk2 z2 hI2 hcutd hcut
              go_wp2_with fail
              go_region_law
                ((go_simp; go_at_call 9; (refine HFD.out.mono ?_))
                 rintro e w5 ⟨A5, n5, d5, rfl, c5, hM5, hD5⟩
                 have har5 := hD5.2.1.ar h2w.cell (fun e => e hc1g)
                 have z15 := har5.frozen' (i := 1) (by omega)
                 have kk15 := har5.cell (i := 1) (by omega))
              all_goals
                have hlow2 : b0 ≤ w2.heap.size := h2w.low
                have hfin : Hid (BegPost w b0 g (zX g c (some ⟨gA, off, none⟩)) x Z.m Z.en (.returned (.int .i64 0)) (w5.setCell ⟨g, 1, none⟩ (.slice none 0 0))) := by
                  rw [← HZ.out.1]
                  have hcs : Chg w5 (w5.setCell ⟨g, 1, none⟩ (.slice none 0 0)) (fun k => k = g) := Chg.setCell (S := fun k => k = g) (Chg.refl w5 _) (p := ⟨g, 1, none⟩) (.inl rfl) _
                  have hc5g : c5 g = 0 := by rw [hD5.2.2 g h2w.cell.lt]; exact hc1g
                  have hc1b : ∀ k, c1 k ≠ 0 → wq.heap.size ≤ k := fun k hk => by
                    have := HI2.out
                    obtain ⟨c9, hM9, hD9⟩ := this
                    rcases Nat.lt_or_ge k w2.heap.size with h | h
                    · exact (hM9.cb k (by rw [hD9.2.2 k h]; exact hk)).1
                    · exact Nat.le_trans hc12.out.size h
                  refine .inr ⟨HZD.out, rfl, c5, { Z with p := some ⟨gd, 0, none⟩, A := none, n := 0, cp := 0, l := [] }, ⟨?_, h2w.lo, OwnO.nil_, fun v hv => by simp at hv, hc5g, fun k hk => by simp [blkOf] at hk, fun k hk => ?_, h2w.sm⟩, .inr ⟨wq.heap.size, gd, _, S, rfl, hgq', hM5.aside hcs (fun k hk => by rw [hk]; exact hc5g), HZD.out, .inl ⟨hbeh, hovr, rfl, rfl, rfl, rfl, ?_, ?_⟩⟩, rfl, rfl, hsum, herr, by simp, hbeh, ?_⟩
                  · exact (har5.set_ (i := 1) (by omega) _).congr (all8 rfl rfl rfl rfl rfl rfl rfl rfl)
                  · have := hM5.cb k hk; exact ⟨Nat.le_trans h1q.low this.1, by rw [show (w5.setCell ⟨g, 1, none⟩ (.slice none 0 0)).heap.size = w5.heap.size by simp [World.setCell]]; exact this.2⟩
                  · obtain ⟨hMB, hMa, hMo, hL⟩ := HMM.out
                    refine .inl ⟨start (bts (x.drop 2)) Z.m, ⟨?_, hL.st, hL.last, hL.left, hL.c0, hL.c1, hL.c2, hL.lens, hL.hd, hL.lt, hL.ds, hL.len, hL.tail, hL.rem, hL.err⟩, .start (Bit.bts (x.drop 2)) Z.m, rfl, by show [] = [] ++ M.out; rw [hMo]; rfl, by show Z.m ≤ _; omega⟩
                    show rb (M.B.drop (M.a / 8) ++ x.drop 2) (M.a % 8) = bts (x.drop 2)
                    rw [hMB, hMa]; rfl
                  · show M.out.length ≤ _; rw [HMM.out.2.2.1]; simp
                  · refine hext.out.trans ⟨?_, ?_, fun k hk => ?_⟩
                    · exact (((hc12.out.below (fun k hk => by rw [hk]; exact h1q.lo) h1q.low).trans (hD5.1.mono h1q.low))).setCell (p := ⟨g, 1, none⟩) h1q.lo _
                    · refine Chg.setCell ((hc12.out.more fun k hk => .inl hk).trans hD5.2.1 fun k hk => .inr (hc1b k hk)) (p := ⟨g, 1, none⟩) (.inl (.inl rfl)) _
                    · rcases hk with hk | hk | hk
                      · exact .inl (.inl hk)
                      · simp [blkOf] at hk
                      · exact .inr (hM5.cb k hk).1
                clear har5 hM5 hD5 HFD HI2 hext h1q hc12 h2w
                go_wp2_with fail
                go_ret
                rw [HZ.out.1]
                exact hfin.out
            · have hb := fun q => bad.out 2 (zhd_bad2 hx2 (by rw [HV0.out]; exact HG.out.1) (by rw [HV0.out]; exact HG.out.2) (by rw [HV1.out]; exact .inr (by rw [HDQ.out.2]; decide))) (by decide) q
              have hb := Lib.hid hb
              clear hnl hl hby hA hn hd bad h1 ho hn0 hx1 hg2 hn2 hx2
              go_enter Try.func12, Try.ntmps12
              go_wp2_with fail
              go_quiet (fail)
              go_wp2_with fail
              go_ret
              exact hb.out _
          · have hd1' : (D % 31 == 0) = false := by simpa using hd1
            have hd1'' : (D % 31 != 0) = true := by simpa using hd1
            have hd1n : ¬ D % 31 = 0 := hd1
            have hd1d : decide (D % 31 = 0) = false := decide_eq_false hd1
            have hb := fun q => bad.out 2 (zhd_bad2 hx2 (by rw [HV0.out]; exact HG.out.1) (by rw [HV0.out]; exact HG.out.2) (by rw [HV0.out, HV1.out]; exact .inl (by have := HDQ.out.1; omega))) (by decide) q
            have hb := Lib.hid hb
            clear hnl hl hby hA hn hd bad h1 ho hn0 hx1 hg2 hn2 hx2
            go_enter Try.func12, Try.ntmps12
            go_wp2_with fail
            go_quiet (fail)
            go_wp2_with fail
            go_ret
            exact hb.out _
    · have hg1' : (v0 % 16 == 8) = false := by simpa using hg1
      have hb := Lib.hid (bad.out 2 (zhd_bad hx1 (by rw [HV0.out]; exact .inl hg1)) (by decide) 0)
      clear hnl hl hby hA hn hd bad h1 ho hn0 hx1
      go_enter Try.func12, Try.ntmps12
      go_wp2_with fail
      go_ret
      exact hb.out
end Go.Proofs.Ytjeedkjgjfbndaa
