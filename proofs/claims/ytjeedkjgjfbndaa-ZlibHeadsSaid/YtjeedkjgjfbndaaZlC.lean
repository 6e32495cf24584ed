/-
  The walk of a zlib decoder's end: the checksum, and what stands behind it.
-/
import Derived.Test.YtjeedkjgjfbndaaZlB
namespace Go.Proofs.Ytjeedkjgjfbndaa
open Go.RowKit
set_option linter.unusedVariables false
theorem or_hi {h l : Int} (k : Nat) (hh : 0 ≤ h) (hl : 0 ≤ l ∧ l < 2 ^ k) (hb : h * 2 ^ k + l < 4294967296) : bits .or .u32 (h * 2 ^ k) l = h * 2 ^ k + l := by
  obtain ⟨a, rfl⟩ := Int.eq_ofNat_of_zero_le hh
  obtain ⟨b, rfl⟩ := Int.eq_ofNat_of_zero_le hl.1
  have e : ((a : Nat) : Int) * 2 ^ k = ((a <<< k : Nat) : Int) := by rw [Nat.shiftLeft_eq, Int.natCast_mul]; simp
  have h2 : ((2 ^ k : Nat) : Int) = 2 ^ k := by simp
  have hl2 : b < 2 ^ k := by
    have h3 : ((b : Nat) : Int) < ((2 ^ k : Nat) : Int) := by rw [h2]; exact hl.2
    exact Int.ofNat_lt.1 h3
  have hb2 : a <<< k + b < 4294967296 := by
    have h3 : (((a : Nat) : Int)) * 2 ^ k + ((b : Nat) : Int) < 4294967296 := hb
    rw [e] at h3; omega
  show bits .or .u32 (((a : Nat) : Int) * 2 ^ k) ((b : Nat) : Int) = ((a : Nat) : Int) * 2 ^ k + ((b : Nat) : Int)
  have hx1 : a <<< k < 4294967296 := Nat.lt_of_le_of_lt (Nat.le_add_right _ _) hb2
  have hx2 : b < 4294967296 := Nat.lt_of_le_of_lt (Nat.le_add_left _ _) hb2
  rw [e, u32_or_nat _ _ hx1 hx2, ← Nat.shiftLeft_add_eq_or_of_lt hl2, Int.natCast_add]
/-- what end gives -/
def EndPost (w : World) (b0 g : Nat) (c : Nat → Nat) (Z : ZR) (x a : List Int) (r : Int) (e : Ending) (w' : World) : Prop :=
  e = .returned (.int .i64 r) ∧ ∃ Z', ZlC w' b0 g c Z' ∧ ZPh w' (g + 1) c x a Z' ∧ Z'.m = Z.m ∧ Z'.sum = Z.sum ∧ Z'.en = Z.en ∧ Z'.err = Z.err ∧ Z'.beh = true ∧ Z'.p = Z.p ∧ Ext b0 w w' (zX g c Z.A) (zX g c Z'.A)
theorem EndPost.same {w : World} {b0 g : Nat} {c : Nat → Nat} {Z : ZR} {x a : List Int} (h1 : ZlC w b0 g c Z) (h2 : ZPh w (g + 1) c x a Z) (hb : Z.beh = true) {r v : Int} (hv : v = r) (q : Nat) : EndPost w b0 g c Z x a r (.returned (.int .i64 v)) (w.drewN q) := by
  have hbq : Below w.heap.size w (w.drewN q) := (Chg.drewN (Chg.refl w (fun _ => False)) q).below (fun _ h => h.elim) (Nat.le_refl _)
  subst hv
  exact ⟨rfl, Z, h1.keeps hbq, h2.keeps hbq, rfl, rfl, rfl, rfl, hb, rfl, (Chg.drewN (Chg.refl w (fun _ => False)) q).below (fun _ h => h.elim) h1.low, Chg.drewN (Chg.refl _ _) q, fun k hk => .inl hk⟩
set_option maxRecDepth 100000 in
set_option maxHeartbeats 4000000 in
theorem zend2_any (w : World) (b0 g : Nat) (c : Nat → Nat) (Z : ZR) (x a R : List Int) (h1 : ZlC w b0 g c Z) (bI gd : Nat) (M : DM) (S : DS) (hp : Z.p = some ⟨gd, 0, none⟩) (hbI : g + 1 ≤ bI) (hM : InfM w bI gd c M S) (hz : zHd x = 0) (hbeh : Z.beh = true) (h8 : (zFin x Z.m).2 = 8) (ha : a = (zFin x Z.m).1.all)
    (hR : bts R = (zFin x Z.m).1.x) (hRb : ∀ v ∈ R, 0 ≤ v ∧ v < 256) (hRl : R.length ≤ 100000000000) (hl : (Z.ovr = false ∧ Z.l = R) ∨ (Z.ovr = true ∧ 4 ≤ R.length ∧ big4 R = Z.sum ∧ Z.l = R.drop 4)) :
    Calls Try.prog 13 #[.pointer (some ⟨g, 0, none⟩)] w (EndPost w b0 g c Z x a (zTl R Z.sum Z.en)) := by
  have hph : ZPh w (g + 1) c x a Z := .inr ⟨bI, gd, M, S, hp, hbI, hM, hz, .inr ⟨hbeh, h8, ha, R, hR, hRb, hl⟩⟩
  obtain ⟨i0, hi, hz0, hz1, hz2⟩ := info_parts rbyte_info
  have Hi := Lib.hid hi
  have Hz1 := Lib.hid hz1
  clear hi hz0 hz1 hz2
  have HPL := Lib.hid (show ∃ bI gd M S, Z.p = some ⟨gd, 0, none⟩ ∧ g + 1 ≤ bI ∧ InfM w bI gd c M S ∧ zHd x = 0 ∧ (zFin x Z.m).2 = 8 ∧ a = (zFin x Z.m).1.all ∧ bts R = (zFin x Z.m).1.x ∧ ∀ v ∈ R, 0 ≤ v ∧ v < 256 from ⟨bI, gd, M, S, hp, hbI, hM, hz, h8, ha, hR, hRb⟩)
  have H1 := Lib.hid h1
  have HPH := Lib.hid hph
  have HBE := Lib.hid hbeh
  obtain ⟨-, k1, -, -, k4, k5, k6, -⟩ := h1.cells
  have ho := h1.own
  have hnl := ho.rd.1
  have hsm := h1.sm
  obtain ⟨A, hA⟩ : ∃ A, Z.A = A := ⟨_, rfl⟩
  obtain ⟨n, hn⟩ : ∃ n, Z.n = n := ⟨_, rfl⟩
  obtain ⟨d, hd⟩ : ∃ d, Z.cp = d := ⟨_, rfl⟩
  obtain ⟨s, hs⟩ : ∃ s, Z.sum = s := ⟨_, rfl⟩
  obtain ⟨en, hen⟩ : ∃ en, Z.en = en := ⟨_, rfl⟩
  rw [hA, hn, hd] at k1 ho
  rw [hn] at hnl
  rw [hs] at k5 hl hsm
  rw [hen] at k6
  rw [hs, hen]
  have HZ := Lib.hid (⟨hA, hn, hd, hs, hen⟩ : _ ∧ _ ∧ _ ∧ _ ∧ _)
  clear h1 hph hA hn hd hs hen ha h8 hz hM hp hbI
  rcases hl with ⟨hov, hlR⟩ | ⟨hov, h4, hbg, hlR⟩
  · rw [hov] at k4
    rw [hlR] at hnl ho
    by_cases hn4 : n < 4
    · have hn4I : (n : Int) < 4 := by omega
      have hfin := Lib.hid (EndPost.same H1.out HPH.out HBE.out (show (5 : Int) = zTl R s en by unfold zTl; rw [if_pos (by omega)]) 0)
      clear hnl hn4 hlR
      go_enter Try.func13, Try.ntmps13
      go_wp2_with fail
      go_ret
      exact hfin.out
    · obtain ⟨gA, off, rfl⟩ := ho.addr (by omega)
      have e0 : w.cell? ⟨gA, off, none⟩ = some (.int .u8 (ix R 0)) := ho.cell (i := 0) (by omega)
      have e1 := ho.cell (i := 1) (by omega)
      have e2 := ho.cell (i := 2) (by omega)
      have e3 := ho.cell (i := 3) (by omega)
      have b0' := hRb _ (ix_mem0 (x := R) (i := 0) (by omega))
      have b1' := hRb _ (ix_mem0 (x := R) (i := 1) (by omega))
      have b2' := hRb _ (ix_mem0 (x := R) (i := 2) (by omega))
      have b3' := hRb _ (ix_mem0 (x := R) (i := 3) (by omega))
      have hbig : big4 R = ix R 0 * 16777216 + ix R 1 * 65536 + ix R 2 * 256 + ix R 3 := rfl
      obtain ⟨v0, hv0⟩ : ∃ v, ix R 0 = v := ⟨_, rfl⟩
      obtain ⟨v1, hv1⟩ : ∃ v, ix R 1 = v := ⟨_, rfl⟩
      obtain ⟨v2, hv2⟩ : ∃ v, ix R 2 = v := ⟨_, rfl⟩
      obtain ⟨v3, hv3⟩ : ∃ v, ix R 3 = v := ⟨_, rfl⟩
      obtain ⟨V, hV⟩ : ∃ V, big4 R = V := ⟨_, rfl⟩
      rw [hv0, hv1, hv2, hv3, hV] at hbig
      rw [hv0] at e0 b0'
      rw [hv1] at e1 b1'
      rw [hv2] at e2 b2'
      rw [hv3] at e3 b3'
      have o1 : bits .or .u32 (v0 * 16777216) (v1 * 65536) = v0 * 16777216 + v1 * 65536 := or_hi 24 b0'.1 ⟨by omega, by show v1 * 65536 < 16777216; omega⟩ (by show v0 * 16777216 + v1 * 65536 < _; omega)
      obtain ⟨H1', hH1⟩ : ∃ H, v0 * 16777216 + v1 * 65536 = H := ⟨_, rfl⟩
      have o2 : bits .or .u32 H1' (v2 * 256) = H1' + v2 * 256 := by
        have := or_hi (h := v0 * 256 + v1) (l := v2 * 256) 16 (by omega) ⟨by omega, by show v2 * 256 < 65536; omega⟩ (by show (v0 * 256 + v1) * 65536 + v2 * 256 < _; omega)
        rw [show (v0 * 256 + v1) * 2 ^ 16 = H1' by show (v0 * 256 + v1) * 65536 = H1'; omega] at this
        exact this
      obtain ⟨H2', hH2⟩ : ∃ H, H1' + v2 * 256 = H := ⟨_, rfl⟩
      have o3 : bits .or .u32 H2' v3 = V := by
        have := or_hi (h := v0 * 65536 + v1 * 256 + v2) (l := v3) 8 (by omega) ⟨by omega, by show v3 < 256; omega⟩ (by show (v0 * 65536 + v1 * 256 + v2) * 256 + v3 < _; omega)
        rw [show (v0 * 65536 + v1 * 256 + v2) * 2 ^ 8 = H2' by show (v0 * 65536 + v1 * 256 + v2) * 256 = H2'; omega] at this
        rw [this]; omega
      rw [hH1] at o1
      rw [hH2] at o2
      have w0 : IntKind.u32.wrap (v0 * 16777216) = v0 * 16777216 := IntWalk.u32_in _ (by omega)
      have w1 : IntKind.u32.wrap (v1 * 65536) = v1 * 65536 := IntWalk.u32_in _ (by omega)
      have w2 : IntKind.u32.wrap (v2 * 256) = v2 * 256 := IntWalk.u32_in _ (by omega)
      have hnI : ¬ (n : Int) < 4 ∧ (0 : Int) < (n : Int) ∧ (1 : Int) < (n : Int) ∧ (2 : Int) < (n : Int) ∧ (3 : Int) < (n : Int) := by omega
      have hnN : ¬ n < 4 ∧ 0 < n ∧ 1 < n ∧ 2 < n ∧ 3 < n := by omega
      have HV := Lib.hid hV
      have HNL := Lib.hid hnl
      have HO := Lib.hid ho
      have HLR := Lib.hid hlR
      clear hv0 hv1 hv2 hv3 hV hbig hH1 hH2 hRb hnl hn4 ho hlR hR
      by_cases hVs : V = s
      · have hVs' : (V == s) = true := by simpa using hVs
        have hVs2 : (V != s) = false := by simpa using hVs
        have hsl := run_slice_from (P := Try.prog) 26 5 Try.underlying26 Hi.out Hz1.out (some ⟨gA, off, none⟩) n d (j := 4) (by omega)
        rw [show ((4 : Nat) : Int) = 4 from rfl] at hsl
        obtain ⟨J, hJ⟩ : ∃ J, n - 4 = J := ⟨_, rfl⟩
        rw [hJ] at hsl
        have HJ := Lib.hid hJ
        obtain ⟨A2, hA2⟩ : ∃ A2, cutA (some ⟨gA, off, none⟩) d 4 = A2 := ⟨_, rfl⟩
        rw [hA2] at hsl
        have z1 := H1.out.frz (i := 1) (by omega)
        have z4 := H1.out.frz (i := 4) (by omega)
        have hnew : Hid (∀ q, ∃ Z', ZlC (((w.drewN q).setCell ⟨g, 1, none⟩ (.slice A2 J (d - 4))).setCell ⟨g, 4, none⟩ (.bool true)) b0 g c Z' ∧ ZPh (((w.drewN q).setCell ⟨g, 1, none⟩ (.slice A2 J (d - 4))).setCell ⟨g, 4, none⟩ (.bool true)) (g + 1) c x a Z' ∧ Z'.m = Z.m ∧ Z'.sum = Z.sum ∧ Z'.en = Z.en ∧ Z'.err = Z.err ∧ Z'.beh = true ∧ Z'.p = Z.p ∧
            Ext b0 w (((w.drewN q).setCell ⟨g, 1, none⟩ (.slice A2 J (d - 4))).setCell ⟨g, 4, none⟩ (.bool true)) (zX g c Z.A) (zX g c Z'.A)) := fun q => by
          obtain ⟨bI, gd, M, S, hp, hbI, hM, hz, h8, ha, hR, hRb⟩ := HPL.out
          have hq := H1.out
          have hcut := HO.out.cut (j := 4) (by have := HNL.out; omega)
          rw [hA2, HJ.out] at hcut
          have hblk : blkOf A2 = blkOf Z.A := by rw [HZ.out.1, ← hA2]; exact HO.out.blk 4
          have hc : Chg w (((w.drewN q).setCell ⟨g, 1, none⟩ (.slice A2 J (d - 4))).setCell ⟨g, 4, none⟩ (.bool true)) (fun k => k = g) :=
            Chg.setCell (S := fun k => k = g) (Chg.setCell (S := fun k => k = g) (Chg.drewN (Chg.refl w _) q) (p := ⟨g, 1, none⟩) (.inl rfl) _) (p := ⟨g, 4, none⟩) (.inl rfl) _
          refine ⟨{ Z with A := A2, n := J, cp := d - 4, l := R.drop 4, ovr := true }, ⟨?_, hq.lo, hcut.chg hc (fun k hk e => (hq.cA k (by rw [← hblk]; exact hk)).1 e), fun v hv => hRb v (List.mem_of_mem_drop hv), hq.cg, fun k hk => hq.cA k (by rw [← hblk]; exact hk), fun k hk => ⟨(hq.cb k hk).1, Nat.lt_of_lt_of_le (hq.cb k hk).2 hc.size⟩, hq.sm⟩,
            .inr ⟨bI, gd, M, S, hp, hbI, hM.aside hc (fun k hk => by rw [hk]; exact hq.cg), hz, .inr ⟨HBE.out, h8, ha, R, hR, hRb, .inr ⟨rfl, by have := HNL.out; omega, by show big4 R = Z.sum; rw [HV.out, HZ.out.2.2.2.1]; exact hVs, rfl⟩⟩⟩, rfl, rfl, rfl, rfl, HBE.out, rfl, Ext.of (hc.more fun k hk => .inl hk) hq.xlo hq.low fun k hk => ?_⟩
          · exact (((hq.cell.drewN q).set_ (i := 1) (by omega) _).set_ (i := 4) (by omega) _).congr (all8 rfl rfl rfl rfl rfl rfl rfl rfl)
          · rcases hk with hk | hk | hk
            · exact .inl (.inl hk)
            · exact .inl (.inr (.inl (by rw [← hblk]; exact hk)))
            · exact .inl (.inr (.inr hk))
        have hnot : Hid (¬ R.length < 4 ∧ ¬ big4 R ≠ s ∧ R.length - 4 = J) := ⟨by rw [← HNL.out]; omega, fun h => h (by rw [HV.out]; exact hVs), by rw [← HNL.out]; exact HJ.out⟩
        have hJI : (J : Int) ≤ 100000000000 ∧ (0 : Int) ≤ J := by have := HNL.out; omega
        clear hJ hA2 hVs
        by_cases hJ0 : 0 < J
        · have hr : Hid (zTl R s en = 2) := by show _ = _; unfold zTl; rw [if_neg hnot.out.1, if_neg hnot.out.2.1, if_pos (by have := hnot.out.2.2; omega)]
          have hJ0I : (0 : Int) < (J : Int) := by omega
          go_enter Try.func13, Try.ntmps13
          go_wp2_with fail
          go_quiet (fail)
          go_wp2_with fail
          go_ret
          exact ⟨ret_int hr.out.symm, hnew.out _⟩
        · obtain rfl : J = 0 := by omega
          cases en with
          | true =>
            have hr : Hid (zTl R s true = 8) := by show _ = _; unfold zTl; rw [if_neg hnot.out.1, if_neg hnot.out.2.1, if_neg (by have := hnot.out.2.2; omega), if_pos rfl]
            clear hJ0
            go_enter Try.func13, Try.ntmps13
            go_wp2_with fail
            go_quiet (fail)
            go_wp2_with fail
            go_ret
            exact ⟨ret_int hr.out.symm, hnew.out _⟩
          | false =>
            have hr : Hid (zTl R s false = 5) := by show _ = _; unfold zTl; rw [if_neg hnot.out.1, if_neg hnot.out.2.1, if_neg (by have := hnot.out.2.2; omega), if_neg (by decide)]
            clear hJ0
            go_enter Try.func13, Try.ntmps13
            go_wp2_with fail
            go_quiet (fail)
            go_wp2_with fail
            go_ret
            exact ⟨ret_int hr.out.symm, hnew.out _⟩
      · have hVs' : (V == s) = false := by simpa using hVs
        have hVs2 : (V != s) = true := by simpa using hVs
        have hfin := fun q => Lib.hid (EndPost.same H1.out HPH.out HBE.out (show (4 : Int) = zTl R s en by unfold zTl; rw [if_neg (by rw [← HNL.out]; omega), if_pos (by rw [HV.out]; exact hVs)]) q)
        have hfin := Lib.hid hfin
        go_enter Try.func13, Try.ntmps13
        go_wp2_with fail
        go_quiet (fail)
        go_wp2_with fail
        go_ret
        exact (hfin.out _).out
  · rw [hov] at k4
    rw [hlR] at hnl
    have hnR : n = R.length - 4 := by rw [hnl, List.length_drop]
    have hnI : (n : Int) ≤ 100000000000 ∧ (0 : Int) ≤ n := by omega
    have hnot : Hid (¬ R.length < 4 ∧ ¬ big4 R ≠ s) := ⟨by omega, fun h => h hbg⟩
    by_cases hn0 : 0 < n
    · have hfin := Lib.hid (EndPost.same H1.out HPH.out HBE.out (show (2 : Int) = zTl R s en by unfold zTl; rw [if_neg hnot.out.1, if_neg hnot.out.2, if_pos (by omega)]) 0)
      have hn0I : (0 : Int) < (n : Int) := by omega
      clear hnl hlR hnR
      go_enter Try.func13, Try.ntmps13
      go_wp2_with fail
      go_ret
      exact hfin.out
    · have hn0I : ¬ (0 : Int) < (n : Int) := by omega
      have hn00 : n = 0 := by omega
      cases en with
      | true =>
        have hfin := Lib.hid (EndPost.same H1.out HPH.out HBE.out (show (8 : Int) = zTl R s true by unfold zTl; rw [if_neg hnot.out.1, if_neg hnot.out.2, if_neg (by omega), if_pos rfl]) 0)
        subst hn00
        clear hnl hlR hnR hn0 hnot
        go_enter Try.func13, Try.ntmps13
        go_wp2_with fail
        go_ret
        exact hfin.out
      | false =>
        have hfin := Lib.hid (EndPost.same H1.out HPH.out HBE.out (show (5 : Int) = zTl R s false by unfold zTl; rw [if_neg hnot.out.1, if_neg hnot.out.2, if_neg (by omega), if_neg (by decide)]) 0)
        subst hn00
        clear hnl hlR hnR hn0 hnot
        go_enter Try.func13, Try.ntmps13
        go_wp2_with fail
        go_ret
        exact hfin.out
end Go.Proofs.Ytjeedkjgjfbndaa
