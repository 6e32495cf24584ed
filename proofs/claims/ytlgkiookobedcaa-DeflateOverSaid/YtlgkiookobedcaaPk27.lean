/-
  Several texts in one (written by pack2.py): DefW, DefF, DefT, DefN, DefZ, DefV, DefA.
-/
import Derived.Test.YtlgkiookobedcaaProg
import Derived.Test.YtlgkiookobedcaaPk26
import Derived.Test.YtlgkiookobedcaaPk25
import Derived.Test.YtlgkiookobedcaaPk17
namespace Go.Proofs.Ytlgkiookobedcaa
open Go.RowKit
set_option linter.unusedVariables false
section
variable {w w' w0 : World} {b0 g : Nat} {c c0 : Nat → Nat} {M : EM} {d : DSt} {done : Bool}
theorem EncM.appR {w6 : World} {A6 : Option Addr} {m c6 : Nat} {l : List Int} (h5 : EncM w b0 g c M d done) (ho : OwnI .u8 w6 b0 5 A6 (M.nr + m) c6 (d.raw ++ l)) (hg : w.grownBy w6 (blkOf M.Ar)) (hat : blkOf A6 = blkOf M.Ar ∨ blkOf A6 = some w.heap.size) :
    EncS w c (w6.setCell ⟨g, 3, none⟩ (.slice A6 (M.nr + m) c6)) b0 g { M with Ar := A6, nr := M.nr + m, cr := c6 } { d with raw := d.raw ++ l } done := by
  have hap : blkOf A6 ≠ some g := fun e => by
    rcases hat with e2 | e2
    · have h1 := h5.cr g (by rw [← e2, e]); have h2 := h5.cg; omega
    · rw [e] at e2; injection e2 with e2; have := h5.cell.lt; omega
  have hne : some g ≠ blkOf M.Ar := fun e => by have h1 := h5.cr g e.symm; have h2 := h5.cg; omega
  have hcc : Chg w (w6.setCell ⟨g, 3, none⟩ (.slice A6 (M.nr + m) c6)) (fun k => k = g ∨ blkOf M.Ar = some k) := ((Chg.refl w _).grown hg (fun k hk => .inl (.inr hk))).setCell (.inl (.inl rfl)) _
  have har : Ar (w6.setCell ⟨g, 3, none⟩ (.slice A6 (M.nr + m) c6)) g 6 (eF { M with Ar := A6, nr := M.nr + m, cr := c6 } d.lev done) := ((h5.cell.grown hg hne).set_ (i := 3) (by omega) _).congr (fun j hj => by
    obtain rfl | rfl | rfl | rfl | rfl | rfl : j = 0 ∨ j = 1 ∨ j = 2 ∨ j = 3 ∨ j = 4 ∨ j = 5 := by omega
    all_goals rfl)
  exact h5.refl.raws hcc har (ho.far (p := ⟨g, 3, none⟩) (fun e => hap e) _) (fun k hk => by
    rcases hat with e | e
    · exact .inl (e ▸ hk)
    · rw [e] at hk; injection hk with hk; exact .inr (by omega))
theorem EncS.rdI (h : EncS w0 c0 w b0 g M d done) {k : IntKind} {B n : Nat} {A : Option Addr} {l : List Int} (ha : RdI k w0 B A n l) (hB : B ≤ w0.heap.size) (hs : 0 < n → ∀ ad, A = some ad → c0 ad.block = 0) : RdI k w B A n l := by
  obtain ⟨c, h1, h2⟩ := h
  exact h2.2.1.rdI ha hB fun h0 ad e hc => hc (hs h0 ad e)
theorem EncS.size (h : EncS w0 c0 w b0 g M d done) : w0.heap.size ≤ w.heap.size := by
  obtain ⟨c, h1, h2⟩ := h
  exact h2.2.1.size
theorem cutA_block {A : Option Addr} {c j : Nat} {ad : Addr} (h : cutA A c j = some ad) : ∃ a0, A = some a0 ∧ ad.block = a0.block := by
  unfold cutA at h
  split at h
  · exact ⟨ad, h, rfl⟩
  · cases A with
    | none => simp at h
    | some a0 => simp at h; exact ⟨a0, rfl, by rw [← h, addr_block]⟩
theorem EncM.fwrite (h : EncM w b0 g c M d done) (hF : d.f.D.length ≤ 16777216) {B m e : Nat} {C : Option Addr} {x : List Int} (hr : RdI .u8 w B C m x) (hB : B ≤ w.heap.size) (hby : ∀ v ∈ x, 0 ≤ v ∧ v < 256) (hm : m ≤ 16777216) :
    Calls Try.prog 24 #[.pointer (some ⟨M.gf, 0, none⟩), .slice C m e] w fun r w' => r = .returned (.tuple #[]) ∧ ∃ M', EncS w c w' b0 g M' { d with f := writeF d.f x } done := by
  obtain ⟨nm, Dm, hf⟩ := h.fnd
  refine (fwrite_any hf hr hB hby (by omega)).mono ?_
  rintro r w' ⟨rfl, A', n', c', Ap', np', cp', nm', Dm', h1, h2, h3⟩
  exact ⟨rfl, _, h.refl.finder h2 ⟨nm', Dm', h1⟩ h3⟩
end
def DrnRel (w : World) (c : Nat → Nat) (b0 g : Nat) (K : Nat) (X P : List Int) (D : DSt) (gk : Nat) (v : Value) (wx : World) : Prop := ∃ M' d', v = .int .i64 ((fullE d'.toks : Nat) : Int) ∧ EncS w c wx b0 g M' d' false ∧ DB K X P d' ∧ drainD d'.toks.length d' = D ∧ gk = d'.toks.length
def WrtRel (w : World) (c : Nat → Nat) (b0 g : Nat) (P : List Int) (D : DSt) (gk : Nat) (v : Value) (wx : World) : Prop := ∃ C m e x M' d' K X, v = .slice C m e ∧ m ≤ e ∧ RdI .u8 w w.heap.size C m x ∧ (0 < m → ∀ ad, C = some ad → c ad.block = 0) ∧ (∀ v ∈ x, 0 ≤ v ∧ v < 256) ∧ EncS w c wx b0 g M' d' false ∧ DB K X P d' ∧ (X ++ x).length ≤ 16777216 ∧ K + 100 * m ≤ 2000000000000 ∧ writeD x.length d' x = D ∧ gk = m
set_option maxRecDepth 100000 in
set_option maxHeartbeats 4000000 in
theorem dwrite_any (w : World) (b0 g : Nat) (c : Nat → Nat) (M : EM) (d : DSt) (h : EncM w b0 g c M d false) {K : Nat} {X P : List Int} (hB : DB K X P d) (C : Option Addr) (m e : Nat) (x : List Int) (hr : RdI .u8 w w.heap.size C m x) (hme : m ≤ e) (hsep : 0 < m → ∀ ad, C = some ad → c ad.block = 0) (hby : ∀ v ∈ x, 0 ≤ v ∧ v < 256) (hX : (X ++ x).length ≤ 16777216) (hK : K + 100 * m ≤ 2000000000000) :
    Calls Try.prog 12 #[.pointer (some ⟨g, 0, none⟩), .slice C m e] w fun r w' => r = .returned (.int .i64 0) ∧ ∃ M', EncS w c w' b0 g M' (writeD m d x) false := by
  obtain ⟨i0, hi, hz0, hz1, hz2⟩ := info_parts dtok_info
  have Hi := Lib.hid (⟨hi, hz0, hz1, hz2⟩ : _ ∧ _ ∧ _ ∧ _)
  obtain ⟨i1, ki, kz0, kz1, kz2⟩ := info_parts dbyte_info
  have Ki := Lib.hid (⟨ki, kz0, kz1, kz2⟩ : _ ∧ _ ∧ _ ∧ _)
  obtain ⟨c0, c1, c2, c3, c4, c5⟩ := h.cells
  have hst : WrtRel w c b0 g P (writeD m d x) m (.slice C m e) w := ⟨C, m, e, x, M, d, K, X, rfl, hme, hr, hsep, hby, h.refl, hB, hX, hK, by rw [← hr.1], rfl⟩
  clear hi hz0 hz1 hz2 ki kz0 kz1 kz2 h hB hK c0 c1 c2 c3 c4 hr hme hsep hby hX
  obtain ⟨D, hD⟩ : ∃ D, writeD m d x = D := ⟨_, rfl⟩
  rw [hD] at hst ⊢
  clear hD
  go_enter Try.func12, Try.ntmps12
  go_wp2_with fail
  go_loopg [1] m (WrtRel w c b0 g P D)
  case atStart => exact hst
  case round =>
    clear hst c5
    obtain ⟨C, m, e, x, M', d', K, X, rfl, hme, hr, hsep, hby, h1, hB1, hX, hK, hD, hg1⟩ := hrel
    have hxl : x.length = m := hr.1.symm
    rw [writeD_here] at hD
    by_cases h0 : 0 < m
    · rw [if_pos (by omega)] at hD
      obtain ⟨n, hn⟩ : ∃ n, min x.length 16384 = n := ⟨_, rfl⟩
      rw [hn] at hD
      have hmb : m ≤ 16777216 := by rw [List.length_append] at hX; omega
      have hmI : (0 : Int) < (m : Int) ∧ (m : Int) ≤ 16777216 ∧ (0 : Int) ≤ (n : Int) ∧ (n : Int) ≤ (m : Int) := by omega
      have hnm : n ≤ m := by omega
      have hne : n ≤ e := by omega
      have HN := Lib.hid hn
      have HH := Lib.hid (⟨h1, hB1, hX, hK, hr, hsep, hby, hD, hg1, hxl⟩ : _ ∧ _ ∧ _ ∧ _ ∧ _ ∧ _ ∧ _ ∧ _ ∧ _ ∧ _)
      clear h1 hB1 hX hK hr hsep hby hD hg1
      rw [hxl] at HN
      clear hn
      go_upto_region 4 with fail
      go_cut [5] (fun v5 wx => v5 = .int .i64 n ∧ wx = wr)
      case first =>
        have hcs : m < 16384 ∨ m = 16384 ∨ 16384 < m := by omega
        rcases hcs with hc | hc | hc
        · have e1 : n = m := by have := HN.out; omega
          have hcI : (m : Int) < 16384 ∧ ¬ (16384 : Int) < (m : Int) := by omega
          subst e1
          clear hc
          go_wp2_with fail
          all_goals
            go_meet
            exact ⟨by go_num, rfl⟩
        · have e1 : n = m := by have := HN.out; omega
          subst e1
          subst hc
          go_wp2_with fail
          all_goals
            go_meet
            exact ⟨by go_num, rfl⟩
        · have e1 : n = 16384 := by have := HN.out; omega
          have hcI : (16384 : Int) < (m : Int) ∧ ¬ (m : Int) < 16384 := by omega
          subst e1
          clear hc
          go_wp2_with fail
          all_goals
            go_meet
            exact ⟨by go_num, rfl⟩
      case rest =>
      obtain ⟨rfl, hwc⟩ := hcut
      obtain rfl := hwc.symm
      obtain ⟨cA, hE, hDE⟩ := HH.out.1.keeps (Below.refl wr.heap.size wr).drew
      have hrw : RdI .u8 wr.drew w.heap.size C m x := EncS.rdI ⟨cA, hE, hDE⟩ HH.out.2.2.2.2.1 (Nat.le_refl _) HH.out.2.2.2.2.2.1
      have hrn := hrw.pre hnm
      have hs1 := run_slice_to (P := Try.prog) 22 5 Try.underlying22 Ki.out.1 Ki.out.2.2.1 C m e (j := n) hne
      have c3 := HH.out.1.cells.2.2.2.1
      have hnr : M'.nr + n ≤ 1000000000000 := by have h1 : M'.nr = d'.raw.length := hE.raw.1; have := HH.out.2.1.1.facts.nr; omega
      have Hrw := Lib.hid hrw
      clear hrw
      go_wp2_with fail
      go_region_law
        (first
          | ((refine step_app .u8 b0 5 i1 1 rfl (.tmp 25) (.tmp 28) _ rfl Try.underlying22 Ki.out.1 Ki.out.2.1 Ki.out.2.2.1 Ki.out.2.2.2 rfl hE.raw rfl hrn hnr (by omega) hE.lo ?_)
             intro A6 c6 w6 ho6 hg6 hat6
             have har := hE.cell.grown hg6 (fun e => by have h1 := hE.cr g e.symm; have h2 := hE.cg; omega)
             have e36 := har.cell (i := 3) (by omega)
             have y36 := har.frozen' (i := 3) (by omega)))
      all_goals
        have h6 := EncS.then_ hDE (hE.appR ho6 hg6 hat6)
        clear hE hDE hrn c3 hnr ho6 hg6 hat6 har e36 y36
        obtain ⟨W, hW⟩ : ∃ W, w6.setCell ⟨g, 3, none⟩ (.slice A6 (M'.nr + n) c6) = W := ⟨_, rfl⟩
        rw [hW] at h6 ⊢
        clear hW
        obtain ⟨M6, hM6⟩ : ∃ q, ({ M' with Ar := A6, nr := M'.nr + n, cr := c6 } : EM) = q := ⟨_, rfl⟩
        rw [hM6] at h6
        clear hM6
        have c0 := h6.cells.1
        obtain ⟨c7, hE, hDE⟩ := h6.keeps (Below.refl W.heap.size W).drew
        have hrn : RdI .u8 W.drew w.heap.size C n (x.take n) := (EncS.rdI ⟨c7, hE, hDE⟩ HH.out.2.2.2.2.1 (Nat.le_refl _) HH.out.2.2.2.2.2.1).pre hnm
        have HFW := Lib.hid (hE.fwrite (e := e) HH.out.2.1.1.facts.nD hrn (by have := h6.size; exact this) (fun v hv => HH.out.2.2.2.2.2.2.1 v (List.mem_of_mem_take hv)) (by omega))
        have HDE := Lib.hid hDE
        clear h6 hE hDE hrn
        go_wp2_with fail
        go_region_law
          ((go_simp; go_at_call 24; (refine HFW.out.mono ?_))
           rintro r w8 ⟨rfl, M8, h8⟩)
        all_goals
          have h9 := EncS.then_ HDE.out h8
          have hB9 := HH.out.2.1.grow (x.take n) (by have h := HH.out.2.2.1; rw [List.length_append] at h ⊢; rw [List.length_take]; omega) (fun v hv => HH.out.2.2.2.2.2.2.1 v (List.mem_of_mem_take hv))
          obtain ⟨d8, hd8⟩ : ∃ q, ({ d' with raw := d'.raw ++ x.take n, f := writeF d'.f (x.take n) } : DSt) = q := ⟨_, rfl⟩
          have hch : drainD (toksD 261 d8).toks.length (toksD 261 d8) = chunkD d' (x.take n) := by rw [← hd8]; rfl
          replace h9 : EncS w c w8 b0 g M8 { d' with raw := d'.raw ++ x.take n, f := writeF d'.f (x.take n) } false := h9
          rw [hd8] at h9 hB9
          have c08 := h9.cells.1
          have c48 := h9.cells.2.2.2.2.1
          obtain ⟨cB, hE, hDE⟩ := h9
          obtain ⟨nm, Dm, hf⟩ := hE.fnd
          have HMT := Lib.hid (mtokens_any false (hf.keeps (Below.refl _ _).drew))
          have HB9 := Lib.hid (⟨hE, hDE, hB9, hch⟩ : _ ∧ _ ∧ _ ∧ _)
          clear HFW HDE h8 hE hDE hB9 hch hf hd8 c0
          go_wp2_with fail
          go_region_law
            (first
              | (go_simp; go_at_call 25; (refine HMT.out.mono ?_)
                 rintro r w5 ⟨l, st', At, nt, ct, rfl, hrun, hle, hoT, hfn, hcg⟩
                 have hcg' : Chg w8 w5 (FF M8.A M8.gm M8.Ap M8.gf) := ((Chg.refl w8 _).drew).trans hcg (fun k hk => .inl hk)
                 have h5 : EncS w8 cB w5 b0 g M8 { d8 with f := st' } false := HB9.out.1.refl.finder hcg' hfn (fun k hk => .inl hk)
                 have htd := Lib.hid (toksD_of HB9.out.2.2.1.1.facts hrun hle)
                 clear hrun hle hfn hcg hcg'
                 obtain ⟨c5, h5, hd5⟩ := h5
                 have e4 := h5.cells.2.2.2.2.1)
              | (have _g := hoT; (refine step_appT b0 i0 rfl (.tmp 44) (.tmp 49) rfl Hi.out.1 Hi.out.2.1 Hi.out.2.2.1 Hi.out.2.2.2 rfl h5.tok rfl hoT.rd (by have h1 := h5.tok.1; have h2 := HB9.out.2.2.1.1.facts.nt; have h3 := hoT.1; have h4 := htd.out.2; have h6 : M8.nt = d8.toks.length := h1; omega) h5.lo ?_)
                 intro A6 c6 w6 ho6 hg6 hat6
                 have har := h5.cell.grown hg6 (fun e => by have h1 := h5.ct g e.symm; have h2 := h5.cg; omega)
                 have e46 := har.cell (i := 4) (by omega)
                 have y46 := har.frozen' (i := 4) (by omega)))
          all_goals
            have h6 := EncS.then_ HB9.out.2.1 (EncS.then_ hd5 (h5.app ho6 hg6 hat6))
            have hTD : toksD 261 d8 = { d8 with f := st', toks := d8.toks ++ l } := htd.out.1
            have hDB := HB9.out.2.2.1.toks 261
            have hRD := HB9.out.2.2.2
            rw [hTD] at hDB hRD
            have h7 : EncS w c (w6.setCell ⟨g, 4, none⟩ (.slice A6 (M8.nt + nt) c6)) b0 g { M8 with At := A6, nt := M8.nt + nt, ct := c6 } { d8 with f := st', toks := d8.toks ++ l } false := h6
            clear h6 hTD htd hoT h5 hd5 e4 ho6 hg6 hat6 har e46 y46 c08 c48
            obtain ⟨W2, hW⟩ : ∃ W, w6.setCell ⟨g, 4, none⟩ (.slice A6 (M8.nt + nt) c6) = W := ⟨_, rfl⟩
            obtain ⟨d2, hd2⟩ : ∃ d2, ({ d8 with f := st', toks := d8.toks ++ l } : DSt) = d2 := ⟨_, rfl⟩
            rw [hW, hd2] at h7
            rw [hd2] at hDB hRD
            rw [hW]
            clear hW hd2
            have HFU := Lib.hid (h7.full hDB.1.facts)
            have HX := Lib.hid (⟨hDB, hRD⟩ : _ ∧ _)
            clear h7 hDB hRD HB9 HMT
            go_wp2_with fail
            refine HFU.out.mono ?_
            rintro r w10 ⟨rfl, h10⟩
            have H10 := Lib.hid h10
            clear h10 HFU
            obtain ⟨K2, hK2⟩ : ∃ q, K + 100 * (x.take n).length = q := ⟨_, rfl⟩
            rw [hK2] at HX
            have hK2b : K2 + 100 * (m - n) ≤ 2000000000000 := by rw [← hK2, List.length_take]; have := HH.out.2.2.2.1; have := HH.out.2.2.2.2.2.2.2.2.2; omega
            have HK2 := Lib.hid hK2b
            clear hK2 hK2b
            go_wp2_with fail
            go_loopg [6] d2.toks.length (DrnRel w c b0 g K2 (X ++ x.take n) P (chunkD d' (x.take n)))
            case atStart => exact ⟨_, _, rfl, H10.out, HX.out.1, HX.out.2, rfl⟩
            case round =>
              obtain ⟨M9, d9, rfl, h9, hB9, hD9, hg9⟩ := hrel
              have hF9 := hB9.1.facts
              rw [drainD_here] at hD9
              by_cases hgo : 0 < fullE d9.toks
              · rw [if_pos hgo] at hD9
                have HLY := Lib.hid (h9.lay hF9 (by have := hB9.size; have := HK2.out; omega) (fullE d9.toks) (fullE_le _) ((hF9.full hgo).2) false)
                have hB10 := hB9.lay hgo
                have hg10 : (layD d9 (fullE d9.toks) false).toks.length < (d9.toks.length) := by have := fullE_le d9.toks; rw [show (layD d9 (fullE d9.toks) false).toks.length = d9.toks.length - fullE d9.toks from List.length_drop]; omega
                obtain ⟨F, hF⟩ : ∃ F, fullE d9.toks = F := ⟨_, rfl⟩
                have hFb := fullE_le d9.toks
                have hFI : (0 : Int) < (F : Int) ∧ (F : Int) ≤ 16777216 ∧ 0 < F := by have := hF9.nt; omega
                rw [hF] at HLY hB10 hD9 hg10 ⊢
                have HY := Lib.hid (⟨hB10, hD9, hg10, hg9⟩ : _ ∧ _ ∧ _ ∧ _)
                clear hgo hF hFb hD9 h9 hB9 hB10 hg10 hg9 hF9 HX H10
                go_wp2_with fail
                refine HLY.out.mono ?_
                rintro r w10 ⟨rfl, M10, h10⟩
                have HFV := Lib.hid (h10.full HY.out.1.1.facts)
                clear h10
                go_wp2_with fail
                refine HFV.out.mono ?_
                rintro r w11 ⟨rfl, h11⟩
                have H11 := Lib.hid h11
                clear h11
                go_wp2_with fail
                go_roundg (layD d9 F false).toks.length
                case measure => have := HY.out.2.2.1; have := HY.out.2.2.2; omega
                case rel => exact ⟨_, _, rfl, H11.out, HY.out.1, HY.out.2.1, rfl⟩
              · rw [if_neg hgo] at hD9
                have hgI : ¬ (0 : Int) < ((fullE d9.toks : Nat) : Int) := by omega
                obtain ⟨F, hF⟩ : ∃ F, fullE d9.toks = F := ⟨_, rfl⟩
                rw [hF] at hgI hgo ⊢
                have hgI2 : ¬ (0 : Int) < (F : Int) ∧ ¬ 0 < F := ⟨hgI, hgo⟩
                rw [hD9] at h9 hB9
                have HE := Lib.hid (⟨h9, hB9⟩ : _ ∧ _)
                have hs2 := run_slice_from (P := Try.prog) 22 5 Try.underlying22 Ki.out.1 Ki.out.2.2.1 C m e hnm
                clear hgo hF hD9 h9 hB9 hg9 hF9 HX H10 hgI
                go_wp2_with fail
                go_roundg (m - n)
                case measure => have := HH.out.2.2.2.2.2.2.2.2.1; have := HN.out; omega
                case rel => exact ⟨cutA C e n, m - n, e - n, x.drop n, _, _, _, _, by go_num, by omega, HH.out.2.2.2.2.1.cutA hnm hme, fun h0 ad e => (by obtain ⟨a0, e1, e2⟩ := cutA_block e; rw [e2]; exact HH.out.2.2.2.2.2.1 (by omega) a0 e1), fun v hv => HH.out.2.2.2.2.2.2.1 v (List.mem_of_mem_drop hv), HE.out.1, HE.out.2, by rw [List.append_assoc, List.take_append_drop]; exact HH.out.2.2.1, HK2.out, HH.out.2.2.2.2.2.2.2.1, rfl⟩
    · have hmI : ¬ (0 : Int) < (m : Int) := by omega
      rw [if_neg (by omega)] at hD
      have HF := Lib.hid (⟨M', by rw [← hD]; exact h1⟩ : ∃ M', EncS w c wr b0 g M' D false)
      clear h0 hD h1
      go_wp2_with fail
      go_ret
      exact ⟨rfl, HF.out⟩
end Go.Proofs.Ytlgkiookobedcaa
namespace Go.Proofs.Ytlgkiookobedcaa
open Go.RowKit
set_option linter.unusedVariables false
section
variable {w w' w0 : World} {b0 g : Nat} {c c0 : Nat → Nat} {M : EM} {d : DSt} {done : Bool} {K : Nat} {X P : List Int}
theorem DB.restEnd (h : DB K X P d) : lensT (restD d).toks ≤ 16641 := by
  obtain ⟨a, b, c, e, f, h1, h2, h3⟩ := h.1.rest
  exact h2
def restB (d : DSt) : DSt := if 0 < (restD d).toks.length then layD (restD d) (restD d).toks.length false else restD d
theorem DB.restB (h : DB K X P d) : (restB d).L.length + 100 * (restB d).raw.length ≤ K + 50 := by
  have hr := h.rest
  have h2 := hr.2
  unfold Go.Proofs.Ytlgkiookobedcaa.restB
  split
  · obtain ⟨all, kinds, stops, btoks, pre, h1⟩ := hr.1
    have hs := lay_size h1 (restD d).toks.length false (by rw [List.take_of_length_le (Nat.le_refl _)]; have := h.restEnd; omega)
    have hf := (h1.first (restD d).toks.length).2
    have e : (layD (restD d) (restD d).toks.length false).raw.length = (restD d).raw.length - lensT ((restD d).toks.take (restD d).toks.length) := List.length_drop
    omega
  · omega
theorem DB.flush (h : DB K X P d) : DB (K + 100) X P (flushD d) := by
  refine ⟨h.1.flush.1, ?_⟩
  have h1 := h.restB
  have e1 : (flushD d).raw = (Go.Proofs.Ytlgkiookobedcaa.restB d).raw := rfl
  have e2 : (flushD d).L = outB 0 [] [] false (Go.Proofs.Ytlgkiookobedcaa.restB d).L := rfl
  have e3 : (outB 0 [] [] false (Go.Proofs.Ytlgkiookobedcaa.restB d).L).length ≤ (Go.Proofs.Ytlgkiookobedcaa.restB d).L.length + 42 := by
    unfold outB
    rw [if_pos rfl]
    unfold stoB
    rw [List.length_append, List.length_append, List.length_append, ofN_length, ofN_length]
    have := evn_length (hd3 0 false (Go.Proofs.Ytlgkiookobedcaa.restB d).L)
    have h4 : (hd3 0 false (Go.Proofs.Ytlgkiookobedcaa.restB d).L).length = (Go.Proofs.Ytlgkiookobedcaa.restB d).L.length + 3 := by unfold hd3; simp [ofN_length]
    show (evn (hd3 0 false (Go.Proofs.Ytlgkiookobedcaa.restB d).L)).length + 16 + 16 + (bts []).length ≤ _
    rw [bts_length, List.length_nil]; omega
  rw [e1, e2]; omega
theorem EncS.stored (h : EncS w0 c0 w b0 g M d done) (hL : d.L.length ≤ 2000000000000) :
    Calls Try.prog 29 #[.pointer (some ⟨M.gw, 0, none⟩), .int .i64 0, .slice none 0 0, .slice none 0 0, .bool false] w fun e w' => e = .returned (.bool true) ∧ ∃ M', EncS w0 c0 w' b0 g M' { d with L := outB 0 [] [] false d.L } done := by
  obtain ⟨c, h1, h2⟩ := h
  refine (wkind_any w b0 M.gw M.nw M.cw M.Aw _ h1.wtr 0 none 0 0 [] ⟨rfl, fun h => absurd h (by decide)⟩ (by decide) (fun h => absurd h (by decide)) (fun t ht => by simp at ht) none 0 0 [] ⟨rfl, fun h => absurd h (by decide)⟩ (fun h => absurd h (by decide)) (fun x hx => by simp at hx) false rfl hL).mono ?_
  rintro e w' ⟨rfl, ⟨A', n', c', q1, q2⟩, q3⟩
  exact ⟨rfl, _, EncS.writer (M := M) (d := d) ⟨c, h1, h2⟩ q3 q1 fun k hk => by
    rcases hk with hk | hk
    · exact .inl (.inl hk)
    · rcases q2 k hk with h | h
      · exact .inl (.inr h)
      · exact .inr h⟩
theorem EncS.align (h : EncS w0 c0 w b0 g M d done) (hL : d.L.length ≤ 2000000000000) :
    Calls Try.prog 31 #[.pointer (some ⟨M.gw, 0, none⟩)] w fun e w' => e = .returned (.tuple #[]) ∧ ∃ M', EncS w0 c0 w' b0 g M' { d with L := evn d.L } done := by
  obtain ⟨c, h1, h2⟩ := h
  refine (wtrAlign_any w b0 M.gw M.nw M.cw M.Aw _ h1.wtr (by omega)).mono ?_
  rintro e w' ⟨A', n', c', rfl, q1, q2, q3⟩
  exact ⟨rfl, _, EncS.writer (M := M) (d := d) ⟨c, h1, h2⟩ q2 q1 fun k hk => by
    rcases hk with hk | hk
    · exact .inl (.inl hk)
    · rcases q3 k hk with h | h
      · exact .inl (.inr h)
      · exact .inr h⟩
theorem EncS.end_ (h : EncS w0 c0 w b0 g M d done) : EncS w0 c0 (w.setCell ⟨g, 5, none⟩ (.bool true)) b0 g M d true := by
  obtain ⟨c, h1, h2⟩ := h
  have hcc : Chg w (w.setCell ⟨g, 5, none⟩ (.bool true)) (fun k => k = g ∨ blkOf M.Ar = some k) := (Chg.refl w _).setCell (.inl (.inl rfl)) _
  have hq := EncS.raws (M := M) (d := d) (A' := M.Ar) (n' := M.nr) (c' := M.cr) (l' := d.raw) (done' := true) ⟨c, h1, h2⟩ hcc
    ((h1.cell.set_ (i := 5) (by omega) (.bool true)).congr (fun j hj => by
      obtain rfl | rfl | rfl | rfl | rfl | rfl : j = 0 ∨ j = 1 ∨ j = 2 ∨ j = 3 ∨ j = 4 ∨ j = 5 := by omega
      all_goals rfl))
    (h1.raw.far (p := ⟨g, 5, none⟩) (fun e => by have h3 := h1.cr g e; have h4 := h1.cg; omega) _) (fun k hk => .inl hk)
  exact hq
end
theorem dflush_nil (w : World) : Calls Try.prog 13 #[.pointer none] w fun e w' => e = .returned (.int .i64 8) ∧ w = w' := by
  go_enter Try.func13, Try.ntmps13
  go_wp2
  go_ret
  exact ⟨rfl, rfl⟩
theorem dflush_done (w : World) (g : Nat) (h : w.cell? ⟨g, 5, none⟩ = some (.bool true)) : Calls Try.prog 13 #[.pointer (some ⟨g, 0, none⟩)] w fun e w' => e = .returned (.int .i64 8) ∧ w = w' := by
  go_enter Try.func13, Try.ntmps13
  go_wp2
  go_ret
  exact ⟨rfl, rfl⟩
set_option maxRecDepth 100000 in
set_option maxHeartbeats 4000000 in
theorem dflush_any (w : World) (b0 g : Nat) (c : Nat → Nat) (M : EM) (d : DSt) (h : EncM w b0 g c M d false) {K : Nat} {X P : List Int} (hB : DB K X P d) (hK : K + 100 ≤ 2000000000000) :
    Calls Try.prog 13 #[.pointer (some ⟨g, 0, none⟩)] w fun r w' => r = .returned (.int .i64 0) ∧ ∃ M', EncS w c w' b0 g M' (flushD d) false := by
  obtain ⟨c0, c1, c2, c3, c4, c5⟩ := h.cells
  have HRS := Lib.hid (rest_any w b0 g c M d false h hB (by omega))
  have HB := Lib.hid (⟨hB, hK⟩ : _ ∧ _)
  clear h hB hK c0 c1 c2 c3 c4
  go_enter Try.func13, Try.ntmps13
  go_wp2_with fail
  refine HRS.out.mono ?_
  rintro e w1 ⟨rfl, M1, h1⟩
  have hB1 := HB.out.1.rest
  have hF1 := hB1.1.facts
  have c4 := h1.cells.2.2.2.2.1
  rw [h1.nt] at c4
  obtain ⟨N, hN⟩ : ∃ N, (restD d).toks.length = N := ⟨_, rfl⟩
  rw [hN] at c4
  have hNb : (0 : Int) ≤ (N : Int) ∧ (N : Int) ≤ 16777216 := by have := hF1.nt; omega
  have HLY := Lib.hid (h1.lay hF1 (by have := hB1.size; have := HB.out.2; omega) N (by omega) (by rw [List.take_of_length_le (by omega)]; have := HB.out.1.restEnd; omega) false)
  have hcut0 : ¬ 0 < N → Hid (∃ M', EncS w c w1 b0 g M' (restB d) false) := fun h0 => ⟨M1, by unfold restB; rw [if_neg (by omega)]; exact h1⟩
  have hcut1 : 0 < N → Hid (layD (restD d) N false = restB d) := fun h0 => by show _ = _; unfold restB; rw [hN, if_pos h0]
  clear h1 hB1 hF1 c5 HRS hN
  go_upto_if 18 with fail
  go_cut [] (fun wx => Hid (∃ M', EncS w c wx b0 g M' (restB d) false))
  case first =>
    by_cases h0 : 0 < N
    · have hNI : (0 : Int) < (N : Int) := by omega
      have HR := hcut1 h0
      clear hcut0 hcut1
      go_wp2_with fail
      refine HLY.out.mono ?_
      rintro e w2 ⟨rfl, M2, h2⟩
      rw [HR.out] at h2
      have H2 := Lib.hid (⟨M2, h2⟩ : ∃ M', EncS w c w2 b0 g M' (restB d) false)
      clear h2
      go_wp2_with fail
      go_meet
      exact H2
    · have hNI : ¬ (0 : Int) < (N : Int) := by omega
      have HR := hcut0 h0
      clear hcut0 hcut1
      go_wp2_with fail
      go_meet
      exact HR
  case rest =>
    obtain ⟨M2, h2⟩ := hcut.out
    have c1 := h2.cells.2.1
    have HST := Lib.hid (h2.stored (by have := HB.out.1.restB; have := HB.out.2; omega))
    clear hcut h2 HLY hcut0 hcut1 c4
    go_wp2_with fail
    refine HST.out.mono ?_
    rintro e w3 ⟨rfl, M3, h3⟩
    have H3 := Lib.hid h3
    clear h3
    go_wp2_with fail
    go_ret
    exact ⟨rfl, M3, H3.out⟩
theorem dclose_nil (w : World) : Calls Try.prog 15 #[.pointer none] w fun e w' => e = .returned (.int .i64 8) ∧ w = w' := by
  go_enter Try.func15, Try.ntmps15
  go_wp2
  go_ret
  exact ⟨rfl, rfl⟩
theorem dclose_done (w : World) (g : Nat) (h : w.cell? ⟨g, 5, none⟩ = some (.bool true)) : Calls Try.prog 15 #[.pointer (some ⟨g, 0, none⟩)] w fun e w' => e = .returned (.int .i64 8) ∧ w = w' := by
  go_enter Try.func15, Try.ntmps15
  go_wp2
  go_ret
  exact ⟨rfl, rfl⟩
theorem dwrite_nil (w : World) (v : Value) : Calls Try.prog 12 #[.pointer none, v] w fun e w' => e = .returned (.int .i64 8) ∧ w = w' := by
  go_enter Try.func12, Try.ntmps12
  go_wp2
  go_ret
  exact ⟨rfl, rfl⟩
theorem dwrite_done (w : World) (g : Nat) (v : Value) (h : w.cell? ⟨g, 5, none⟩ = some (.bool true)) : Calls Try.prog 12 #[.pointer (some ⟨g, 0, none⟩), v] w fun e w' => e = .returned (.int .i64 8) ∧ w = w' := by
  go_enter Try.func12, Try.ntmps12
  go_wp2
  go_ret
  exact ⟨rfl, rfl⟩
set_option maxRecDepth 100000 in
set_option maxHeartbeats 4000000 in
theorem dclose_any (w : World) (b0 g : Nat) (c : Nat → Nat) (M : EM) (d : DSt) (h : EncM w b0 g c M d false) {K : Nat} {X P : List Int} (hB : DB K X P d) (hK : K + 100 ≤ 2000000000000) :
    Calls Try.prog 15 #[.pointer (some ⟨g, 0, none⟩)] w fun r w' => r = .returned (.int .i64 0) ∧ ∃ M', EncS w c w' b0 g M' (closeD d) true := by
  obtain ⟨c0, c1, c2, c3, c4, c5⟩ := h.cells
  have HRS := Lib.hid (rest_any w b0 g c M d false h hB (by omega))
  have HB := Lib.hid (⟨hB, hK⟩ : _ ∧ _)
  clear h hB hK c0 c1 c2 c3 c4
  go_enter Try.func15, Try.ntmps15
  go_wp2_with fail
  refine HRS.out.mono ?_
  rintro e w1 ⟨rfl, M1, h1⟩
  have hB1 := HB.out.1.rest
  have hF1 := hB1.1.facts
  have c4 := h1.cells.2.2.2.2.1
  rw [h1.nt] at c4
  have hsz : (layD (restD d) (restD d).toks.length true).L.length ≤ 2000000000000 := by
    obtain ⟨all, kinds, stops, btoks, pre, h2⟩ := hB1.1
    have hs := lay_size h2 (restD d).toks.length true (by rw [List.take_of_length_le (Nat.le_refl _)]; have := HB.out.1.restEnd; omega)
    have hf := (h2.first (restD d).toks.length).2
    have := hB1.2
    have := HB.out.2
    omega
  obtain ⟨N, hN⟩ : ∃ N, (restD d).toks.length = N := ⟨_, rfl⟩
  have hcl : closeD d = { layD (restD d) N true with L := evn (layD (restD d) N true).L } := by rw [← hN]; rfl
  rw [hN] at c4 hsz
  have hNb : (0 : Int) ≤ (N : Int) ∧ (N : Int) ≤ 16777216 := by have := hF1.nt; omega
  have HLY := Lib.hid (h1.lay hF1 (by have := hB1.size; have := HB.out.2; omega) N (by omega) (by rw [List.take_of_length_le (by omega)]; have := HB.out.1.restEnd; omega) true)
  have HS := Lib.hid (⟨hsz, hcl⟩ : _ ∧ _)
  clear h1 hB1 hF1 c5 HRS hN hsz hcl
  go_wp2_with fail
  refine HLY.out.mono ?_
  rintro e w2 ⟨rfl, M2, h2⟩
  have c1 := h2.cells.2.1
  have HAL := Lib.hid (h2.align HS.out.1)
  clear h2 HLY c4
  go_wp2_with fail
  refine HAL.out.mono ?_
  rintro e w3 ⟨rfl, M3, h3⟩
  have c5 := h3.cells.2.2.2.2.2
  have y5 : w3.frozen? ⟨g, 5, none⟩ = false := by obtain ⟨c7, h7, h8⟩ := h3; exact h7.cell.frozen' (i := 5) (by omega)
  have H3 := Lib.hid h3.end_
  clear h3 HAL c1
  go_wp2_with fail
  go_ret
  exact ⟨rfl, M3, by rw [HS.out.2]; exact H3.out⟩
end Go.Proofs.Ytlgkiookobedcaa
namespace Go.Proofs.Ytlgkiookobedcaa
open Go.RowKit
set_option linter.unusedVariables false
theorem dtake_nil (w : World) : Calls Try.prog 14 #[.pointer none] w fun e w' => e = .returned (.slice none 0 0) ∧ w = w' := by
  go_enter Try.func14, Try.ntmps14
  go_wp2
  go_ret
  exact ⟨rfl, rfl⟩
set_option maxRecDepth 100000 in
set_option maxHeartbeats 2000000 in
theorem dtake_any (w : World) (b0 g : Nat) (c : Nat → Nat) (M : EM) (d : DSt) (done : Bool) (h : EncM w b0 g c M d done) :
    Calls Try.prog 14 #[.pointer (some ⟨g, 0, none⟩)] w fun e w' => e = .returned (.slice M.Aw M.nw M.cw) ∧ OwnI .u8 w' b0 5 M.Aw M.nw M.cw (byt d.L) ∧ Wtr w' b0 M.gw none 0 0 (rest d.L) ∧ Chg w w' (fun k => k = M.gw) := by
  obtain ⟨c0, c1, c2, c3, c4, c5⟩ := h.cells
  have HT := Lib.hid (wtrTake_any w b0 M.gw M.nw M.cw M.Aw _ h.wtr)
  clear h c0 c2 c3 c4 c5
  go_enter Try.func14, Try.ntmps14
  go_wp2_with fail
  refine HT.out.mono ?_
  rintro e w1 ⟨rfl, h1, h2, h3⟩
  have HX := Lib.hid (⟨h1, h2, h3⟩ : _ ∧ _ ∧ _)
  clear h1 h2 h3
  go_wp2_with fail
  go_ret
  exact ⟨rfl, HX.out⟩
end Go.Proofs.Ytlgkiookobedcaa
namespace Go.Proofs.Ytlgkiookobedcaa
open Go.RowKit
set_option linter.unusedVariables false
theorem EncM.new {w2 : World} {b0 gf gm gw : Nat} (lev : Int) (hf : FndC w2 b0 gf (effOf lev) newF 0 none 0 0 gm 0 (.map []) none 0 0) (hw : Wtr w2 b0 gw none 0 0 []) (h1 : gf ≠ gw) (h2 : gm ≠ gw) (t : TypeId) :
    EncM (w2.alloc (.cells #[.pointer (some ⟨gf, 0, none⟩), .pointer (some ⟨gw, 0, none⟩), .int .i64 lev, .slice none 0 0, .slice none 0 0, .bool false] t)) b0 w2.heap.size
      (fun k => if k = w2.heap.size then 1 else if k = gf ∨ k = gm then 2 else if k = gw then 3 else 0)
      ⟨gf, none, 0, 0, gm, none, 0, 0, gw, none, 0, 0, none, 0, 0, none, 0, 0⟩ (newD lev) false := by
  have l1 : b0 ≤ gf ∧ gf < w2.heap.size := hf.foot_lo (.inl rfl)
  have l2 : b0 ≤ gm ∧ gm < w2.heap.size := hf.foot_lo (.inr (.inl rfl))
  have l3 : b0 ≤ gw ∧ gw < w2.heap.size := hw.foot_lo (.inl rfl)
  have hb : Below w2.heap.size w2 (w2.alloc (.cells #[.pointer (some ⟨gf, 0, none⟩), .pointer (some ⟨gw, 0, none⟩), .int .i64 lev, .slice none 0 0, .slice none 0 0, .bool false] t)) := (Below.refl _ _).alloc (Nat.le_refl _) _
  refine ⟨Ar.new _ _ _ rfl fun i hi => ?_, if_pos rfl, ⟨0, .map [], hf.keeps hb⟩, fun k hk => ?_, hw.keeps hb, fun k hk => ?_, OwnI.nil_, fun k hk => by simp [blkOf] at hk, ⟨rfl, Own.nil_⟩, fun k hk => by simp [blkOf] at hk, fun k hk => ?_⟩
  · obtain rfl | rfl | rfl | rfl | rfl | rfl : i = 0 ∨ i = 1 ∨ i = 2 ∨ i = 3 ∨ i = 4 ∨ i = 5 := by omega
    all_goals rfl
  · have hk2 : k = gf ∨ k = gm := by
      rcases hk with h | h | h | h
      · exact .inl h
      · exact .inr h
      · simp [blkOf] at h
      · simp [blkOf] at h
    show (if k = w2.heap.size then 1 else if k = gf ∨ k = gm then 2 else if k = gw then 3 else 0) = 2
    rw [if_neg (by omega), if_pos hk2]
  · have hk2 : k = gw := by
      rcases hk with h | h
      · exact h
      · simp [blkOf] at h
    show (if k = w2.heap.size then 1 else if k = gf ∨ k = gm then 2 else if k = gw then 3 else 0) = 3
    rw [if_neg (by omega), if_neg (by omega), if_pos hk2]
  · have hs : (w2.alloc (.cells #[.pointer (some ⟨gf, 0, none⟩), .pointer (some ⟨gw, 0, none⟩), .int .i64 lev, .slice none 0 0, .slice none 0 0, .bool false] t)).heap.size = w2.heap.size + 1 := by simp
    rw [hs]
    by_cases e1 : k = w2.heap.size
    · omega
    · by_cases e2 : k = gf ∨ k = gm
      · omega
      · by_cases e3 : k = gw
        · omega
        · exact absurd (by show (if k = w2.heap.size then 1 else if k = gf ∨ k = gm then 2 else if k = gw then 3 else 0) = 0; rw [if_neg e1, if_neg e2, if_neg e3]) hk
set_option maxRecDepth 100000 in
set_option maxHeartbeats 2000000 in
theorem dnew_any (lev : Int) (w : World) (hl : -9223372036854775808 ≤ lev ∧ lev ≤ 9223372036854775807) :
    Calls Try.prog 11 #[.int .i64 lev] w fun e w' => ∃ g c M, e = .returned (.pointer (some ⟨g, 0, none⟩)) ∧ EncM w' w.heap.size g c M (newD lev) false ∧ Below w.heap.size w w' := by
  have HF := Lib.hid (fnew_any lev w hl)
  clear hl
  go_enter Try.func11, Try.ntmps11
  go_wp2_with fail
  refine HF.out.mono ?_
  rintro e w1 ⟨gf, gm, rfl, hf, hb1⟩
  have HX := Lib.hid (⟨hf, hb1⟩ : _ ∧ _)
  clear hf hb1
  go_wp2_with fail
  refine (wtrNew_any w1).mono ?_
  rintro e w2 ⟨gw, rfl, hw, hb2⟩
  have hf2 := HX.out.1.keeps hb2
  have hn := EncM.new (b0 := w.heap.size) lev hf2 ⟨hw.cell, Nat.le_trans HX.out.2.size hw.lo, hw.own.more HX.out.2.size, hw.apart, hw.bit⟩ (fun e => by have h1 := (HX.out.1.foot_lo (.inl rfl)).2; have h2 := hw.lo; omega) (fun e => by have h1 := (HX.out.1.foot_lo (.inr (.inl rfl))).2; have h2 := hw.lo; omega) 57
  have hall := fun o : Obj => (HX.out.2.trans (hb2.mono HX.out.2.size)).alloc (Nat.le_trans HX.out.2.size hb2.size) o
  have HN := Lib.hid (⟨hn, hall⟩ : _ ∧ _)
  clear hf2 hn hw hb2 hall
  go_wp2_with fail
  go_ret
  exact ⟨_, _, _, rfl, HN.out.1, HN.out.2 _⟩
end Go.Proofs.Ytlgkiookobedcaa
namespace Go.Proofs.Ytlgkiookobedcaa
open Go.RowKit
set_option linter.unusedVariables false
def wholeD (lev : Int) (x : List Int) : DSt := closeD (writeD x.length (newD lev) x)
def wholeB (lev : Int) (x : List Int) : List Int := byt (wholeD lev x).L
theorem EncM.far0 {w : World} {b0 g : Nat} {c : Nat → Nat} {M : EM} {d : DSt} {done : Bool} (h : EncM w b0 g c M d done) {w0 : World} {B m : Nat} {C : Option Addr} {x : List Int} (hr : RdI .u8 w0 B C m x) (hB : B ≤ b0) : 0 < m → ∀ ad, C = some ad → c ad.block = 0 := fun h0 ad e => by
  obtain ⟨a0, e0, hb, _⟩ := hr.2 h0
  rw [e] at e0; injection e0 with e0; subst e0
  rcases Nat.eq_zero_or_pos (c ad.block) with h1 | h1
  · exact h1
  · have := (h.cb ad.block (by omega)).1; omega
set_option maxRecDepth 100000 in
set_option maxHeartbeats 4000000 in
theorem dwhole_any (w : World) (C : Option Addr) (m e : Nat) (x : List Int) (lev : Int) (hr : RdI .u8 w w.heap.size C m x) (hme : m ≤ e) (hby : ∀ v ∈ x, 0 ≤ v ∧ v < 256) (hX : x.length ≤ 16777216) (hl : -9223372036854775808 ≤ lev ∧ lev ≤ 9223372036854775807) :
    Calls Try.prog 8 #[.slice C m e, .int .i64 lev] w fun r w' => ∃ A n k, r = .returned (.slice A n k) ∧ OwnI .u8 w' w.heap.size 5 A n k (wholeB lev x) ∧ Below w.heap.size w w' := by
  have HN := Lib.hid (dnew_any lev w hl)
  have HH := Lib.hid (⟨hr, hme, hby, hX⟩ : _ ∧ _ ∧ _ ∧ _)
  clear hl hr hme hby hX
  go_enter Try.func8, Try.ntmps8
  go_wp2_with fail
  refine HN.out.mono ?_
  rintro r w1 ⟨g, c, M, rfl, h1, hb1⟩
  have hm : m = x.length := HH.out.1.1
  have HW := Lib.hid (dwrite_any w1 w.heap.size g c M (newD lev) h1 (DB.new lev) C m e x ((HH.out.1.below hb1).more hb1.size) HH.out.2.1 (h1.far0 HH.out.1 (Nat.le_refl _)) HH.out.2.2.1 (by rw [List.nil_append]; exact HH.out.2.2.2) (by have := HH.out.2.2.2; omega))
  have HB1 := Lib.hid hb1
  have HM := Lib.hid hm
  clear h1 hb1 HN hm
  go_wp2_with fail
  refine HW.out.mono ?_
  rintro r w2 ⟨rfl, M2, c2, h2, hd2⟩
  have hDB := DB.write m (K := 0) (X := []) (P := []) (d := newD lev) x (DB.new lev) (by rw [HM.out]; exact Nat.le_refl _) (by rw [List.nil_append]; exact HH.out.2.2.2) HH.out.2.2.1
  have HC := Lib.hid (dclose_any w2 w.heap.size g c2 M2 _ h2 hDB (by have := HH.out.2.2.2; omega))
  have HD2 := Lib.hid hd2
  clear h2 hd2 hDB HW
  go_wp2_with fail
  refine HC.out.mono ?_
  rintro r w3 ⟨rfl, M3, c3, h3, hd3⟩
  have HT := Lib.hid (dtake_any w3 w.heap.size g c3 M3 _ true h3)
  have hb3 := HB1.out.trans (HD2.out.1.trans hd3.1)
  have hg3 := h3.cb M3.gw (by rw [h3.cw M3.gw (.inl rfl)]; decide)
  have HB3 := Lib.hid (⟨hb3, hg3⟩ : _ ∧ _)
  clear h3 hd3 hb3 hg3 HC
  go_wp2_with fail
  refine HT.out.mono ?_
  rintro r w4 ⟨rfl, h4, h5, h6⟩
  have hw : byt (closeD (writeD m (newD lev) x)).L = wholeB lev x := by rw [HM.out]; rfl
  rw [hw] at h4
  have HX := Lib.hid (⟨h4, HB3.out.1.trans (h6.below (fun k hk => by rw [hk]; exact HB3.out.2.1) (by have := HB3.out.2; omega))⟩ : _ ∧ _)
  clear h4 h5 h6 hw
  go_wp2_with fail
  go_ret
  exact ⟨_, _, _, rfl, HX.out⟩
end Go.Proofs.Ytlgkiookobedcaa
namespace Go.Proofs.Ytlgkiookobedcaa
open Go.RowKit
set_option linter.unusedVariables false
theorem fin_cap {x : List Int} {M m : Nat} {t : IS} (h : (start x M).fin = (t, 8)) (hm : t.all.length ≤ m) : ∃ t2, (start x m).fin = (t2, 8) ∧ t2.all = t.all ∧ t2.x = t.x := by
  obtain ⟨t1, hs, ht⟩ := IS.fin_steps (start x M)
  have h8 : t1.step.2 = 8 := by rw [ht, h]
  obtain ⟨h1, g0, g1, g2, g3, g4, g5, g6, g7⟩ := IS.step_done h8
  have e1 : t1 = t := by rw [h] at ht; rw [← h1, ht]
  subst e1
  obtain ⟨l, h2, h3⟩ := hs.out
  have h2 : t1.all = [] ++ l := h2
  have hc := (hs.cap l h2 m).1 (by rw [h2] at hm; simpa using hm)
  have hst : (t1.cap (m - l.length)).step = (t1.cap (m - l.length), 8) := by
    unfold IS.step IS.cap
    simp only [if_neg g0, if_neg g1, if_neg g2, if_neg g3, if_neg g4, if_neg g5, if_neg g6, if_neg g7]
  have hc2 : IS.Steps (start x m) (t1.cap (m - l.length)) := hc
  refine ⟨t1.cap (m - l.length), ?_, rfl, rfl⟩
  rw [← hc2.fin_eq, IS.fin_stop (by rw [hst]; simp), hst]
theorem chunk_lev (d : DSt) (x : List Int) : (chunkD d x).lev = d.lev := (drainD_keep _ _).1
theorem write_lev : ∀ (k : Nat) (d : DSt) (b : List Int), (writeD k d b).lev = d.lev
  | 0, d, b => rfl
  | k + 1, d, b => by
    unfold writeD
    split
    · rw [write_lev k, chunk_lev]
    · rfl
theorem DInvG.new (lev : Int) : DInvG [] [] (newD lev) :=
  ⟨_, _, _, _, _, DOk.new lev, ⟨fun i hi => by simp at hi, rfl, Nat.le_refl _, Nat.le_refl _⟩⟩
theorem whole_fin (lev : Int) {x : List Int} (hx : x.length ≤ 16777216) (hby : ∀ v ∈ x, 0 ≤ v ∧ v < 256) : ∃ t, (start (bts (wholeB lev x)) 16777216).fin = (t, 8) ∧ t.x = [] ∧ t.all = x ∧
    (lev ≤ 0 → ∀ k ∈ t.kinds, k = 0) ∧ t.kinds.length = t.stops.length ∧ (∀ i, i < t.stops.length → ix t.stops i - (if i = 0 then 0 else ix t.stops (i - 1)) ≤ 16642) ∧ (wholeB lev x).length ≤ x.length + 6 * (x.length / 16384 + 1) ∧ (∀ v ∈ wholeB lev x, 0 ≤ v ∧ v < 256) ∧ ∀ s ∈ t.stops, 0 ≤ s ∧ s ≤ 16777216 := by
  have hw := DInvG.write (X := []) (P := []) (DInvG.new lev) (b := x) (by rw [List.nil_append]; exact hx) hby (Nat.le_refl _)
  rw [List.nil_append] at hw
  obtain ⟨t, h1, h2, h3, h4, h5, h6, h7, h8, h9, h10⟩ := hw.close
  have e : (closeD (writeD x.length (newD lev) x)) = wholeD lev x := rfl
  rw [e, List.nil_append] at h1 h4 h5 h9
  have hb : bts (wholeB lev x) = (wholeD lev x).L := even_bts h4 h5
  have hl : (wholeB lev x).length = (wholeD lev x).L.length / 8 := byt_length _
  rw [write_lev] at h6
  exact ⟨t, by rw [hb]; exact h1, h2, h3, h6, h7, h8, by rw [hl]; omega, byt_bd h5, h10⟩
end Go.Proofs.Ytlgkiookobedcaa
namespace Go.Proofs.Ytlgkiookobedcaa
open Go.RowKit
set_option linter.unusedVariables false
section
variable {w w' : World} {b0 g : Nat} {c : Nat → Nat} {M : EM} {d : DSt} {done : Bool}
theorem EncM.aside {F : Nat → Prop} (h : EncM w b0 g c M d done) (hc : Chg w w' F) (hF : ∀ k, F k → c k = 0) : EncM w' b0 g c M d done :=
  ⟨hc.ar h.cell (fun e => by have := hF g e; have := h.cg; omega), h.cg,
    by obtain ⟨nm, Dm, hx⟩ := h.fnd; exact ⟨nm, Dm, hx.chg hc (fun k hk e => by have := hF k e; have := h.cf k hk; omega)⟩, h.cf,
    h.wtr.chg hc (fun k hk e => by have := hF k e; have := h.cw k hk; omega), h.cw,
    hc.ownI h.raw (fun k hk e => by have := hF k e; have := h.cr k hk; omega), h.cr,
    ⟨h.tok.1, hc.own h.tok.2 (fun k hk e => by have := hF k e; have := h.ct k hk; omega)⟩, h.ct,
    fun k hk => ⟨(h.cb k hk).1, Nat.lt_of_lt_of_le (h.cb k hk).2 hc.size⟩⟩
theorem DB.closeL {K : Nat} {X P : List Int} (h : DB K X P d) : (closeD d).L.length ≤ K + 60 := by
  have hr := h.rest
  obtain ⟨all, kinds, stops, btoks, pre, h1⟩ := hr.1
  have hs := lay_size h1 (restD d).toks.length true (by rw [List.take_of_length_le (Nat.le_refl _)]; have := h.restEnd; omega)
  have hf := (h1.first (restD d).toks.length).2
  have h2 := hr.2
  have e : (closeD d).L = evn (layD (restD d) (restD d).toks.length true).L := rfl
  have h3 := evn_length (layD (restD d) (restD d).toks.length true).L
  rw [e]
  omega
end
end Go.Proofs.Ytlgkiookobedcaa
