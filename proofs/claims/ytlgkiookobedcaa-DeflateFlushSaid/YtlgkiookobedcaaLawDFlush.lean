/-
  The walk of the statement DeflateFlush.
-/
import Derived.Test.YtlgkiookobedcaaProg
import Derived.Test.YtlgkiookobedcaaAns11
import Derived.Test.YtlgkiookobedcaaPk8
import Derived.Test.YtlgkiookobedcaaPk24
import Derived.Test.YtlgkiookobedcaaOpenX
import Derived.Test.YtlgkiookobedcaaPk27
import Derived.Test.YtlgkiookobedcaaLawDOver
namespace Go.Proofs.Ytlgkiookobedcaa
open Go.RowKit
set_option linter.unusedVariables false
theorem taken_out {P L : List Int} (hP : P.length % 8 = 0) : byt P ++ byt L = byt (P ++ L) := (byt_even hP L).symm
theorem dinv_took {X P : List Int} {d : DSt} (h : DInv X P d) (hL : d.L.length % 8 = 0) : DInv X (P ++ d.L) { d with L := rest d.L } := by
  obtain ⟨all, kinds, stops, btoks, pre, h⟩ := h
  have hr : rest d.L = [] := List.eq_nil_of_length_eq_zero (by rw [rest_length, hL])
  rw [hr]
  exact ⟨_, _, _, _, _, h.taken (Q := d.L) (R := []) (by simp) hL⟩
def FlRel (w : World) (g len : Nat) (gk : Nat) (v6 v7 v8 : Value) (wx : World) : Prop := ∃ (i : Nat) (c : Nat → Nat) (M : EM) (d : DSt) (K : Nat) (X P : List Int) (Ao Aa : Option Addr) (no co na ca : Nat),
  v6 = .slice Ao no co ∧ v7 = .slice Aa na ca ∧ v8 = .int .i64 i ∧ i ≤ len ∧ EncM wx w.heap.size g c M d false ∧ DB K X P d ∧ K ≤ 600000 * i ∧ P.length ≤ 6000000 * i ∧ P.length % 8 = 0 ∧ X.length ≤ 5000 * i ∧ OwnI .u8 wx w.heap.size 5 Ao no co (byt P) ∧ OwnI .u8 wx w.heap.size 5 Aa na ca X ∧
  (∀ k, blkOf Ao = some k → c k = 0) ∧ (∀ k, blkOf Aa = some k → c k = 0) ∧ (∀ k, blkOf Ao = some k → blkOf Aa ≠ some k) ∧ Below w.heap.size w wx ∧ gk = len - i
set_option maxRecDepth 100000 in
set_option maxHeartbeats 8000000 in
theorem dflush_law (A : Option Addr) (len cp : Nat) (l : List TxV) (lev : Int) (w : World) (hT : (∀ i, i < len → ∃ ad, A = some ad ∧ RdTx w (ad.add (i * 3)) (txAt l i)) ∧ len ≤ maxLen) (hlev : (Lit.int .i64 lev).wf = true) :
    Calls Try.prog 4 #[.slice A len cp, .int .i64 lev] w fun e w' => e = .returned (.bool true) ∧ Below w.heap.size w w' := by
  have hl := bounds_i64 hlev
  have hmx : len ≤ 9223372036854775807 := hT.2
  have HN := Lib.hid (dnew_any lev w hl)
  have HT := Lib.hid hT.1
  obtain ⟨i0, hi, hz0, hz1, hz2⟩ := info_parts tbyte_info
  have Hi := Lib.hid (⟨hi, hz0, hz1, hz2⟩ : _ ∧ _ ∧ _ ∧ _)
  clear hl hlev hT hi hz0 hz1 hz2
  go_enter Try.func4, Try.ntmps4
  go_wp2_with fail
  refine HN.out.mono ?_
  rintro r w1 ⟨g, c, M, rfl, h1, hb1⟩
  have H1 := Lib.hid (⟨h1, hb1⟩ : _ ∧ _)
  clear h1 hb1 HN
  go_wp2_with fail
  refine (answers11_any w1).mono ?_
  rintro r w2 ⟨rfl, hb2⟩
  have H2 := Lib.hid (⟨H1.out.1.keeps hb2, H1.out.2.trans (hb2.mono H1.out.2.size)⟩ : _ ∧ _)
  clear hb2 H1
  by_cases hbig : 8 < len
  · have hc : (8 : Int) < (len : Int) := by omega
    clear hbig
    go_wp2_with fail
    refine (answers11_any w2).mono ?_
    rintro r w3 ⟨rfl, hb3⟩
    have HB3 := Lib.hid (H2.out.2.trans (hb3.mono H2.out.2.size))
    clear hb3
    go_wp2_with fail
    go_ret
    exact ⟨rfl, HB3.out⟩
  · have hc : ¬ (8 : Int) < (len : Int) := by omega
    have HLN := Lib.hid (show len ≤ 8 by omega)
    clear hbig
    go_wp2_with fail
    go_loopg [6, 7, 8] len (FlRel w g len)
    case atStart => exact ⟨0, c, M, newD lev, 0, [], [], none, none, 0, 0, 0, 0, rfl, rfl, rfl, Nat.zero_le _, H2.out.1, DB.new lev, Nat.le_refl _, Nat.le_refl _, rfl, Nat.le_refl _, OwnI.nil_, OwnI.nil_, fun k hk => by simp [blkOf] at hk, fun k hk => by simp [blkOf] at hk, fun k hk => by simp [blkOf] at hk, H2.out.2, rfl⟩
    case round =>
      clear H2 M
      obtain ⟨i, c, M, d, K, X, P, Ao, Aa, no, co, na, ca, rfl, rfl, rfl, hi, hE, hD, hK, hP, hP8, hX, hoo, hoa, sp1, sp2, sp3, hbw, hg⟩ := hrel
      have H := Lib.hid (⟨hE, hD, hK, hP, hP8, hX, hoo, hoa, sp1, sp2, sp3, hbw, hg⟩ : _ ∧ _ ∧ _ ∧ _ ∧ _ ∧ _ ∧ _ ∧ _ ∧ _ ∧ _ ∧ _ ∧ _ ∧ _)
      clear hE hD hK hP hP8 hX hoo hoa sp1 sp2 sp3 hbw hg
      by_cases hlt : i < len
      · obtain ⟨ad, rfl, hx⟩ := HT.out i hlt
        have hiI : (i : Int) < (len : Int) ∧ (0 : Int) ≤ (i : Int) ∧ (i : Int) ≤ 7 := by have := HLN.out; omega
        have hb := H.out.2.2.2.2.2.2.2.2.2.2.2.1
        have d0 : wr.cell? (ad.add (i * 3)) = some (.slice (txAt l i).A (txAt l i).n (txAt l i).c) := (hb.cell hx.lt).trans hx.c0
        have d1 : wr.cell? ⟨(ad.add (i * 3)).block, (ad.add (i * 3)).off + 1, none⟩ = some (.int .u16 (txAt l i).times) := (hb.cell (p := ⟨(ad.add (i * 3)).block, (ad.add (i * 3)).off + 1, none⟩) hx.lt).trans hx.c1
        have d2 : wr.cell? ⟨(ad.add (i * 3)).block, (ad.add (i * 3)).off + 2, none⟩ = some (.int .u16 (txAt l i).turn) := (hb.cell (p := ⟨(ad.add (i * 3)).block, (ad.add (i * 3)).off + 2, none⟩) hx.lt).trans hx.c2
        have HLT := Lib.hid hlt
        obtain ⟨⟨B, n, cb, b, times, turn⟩, ht⟩ : ∃ t, txAt l i = t := ⟨_, rfl⟩
        rw [ht] at d0 d1 d2 hx
        obtain ⟨⟨hr, hmx2, hwf, hcap, hcm⟩, ht1, ht2⟩ := hx.x
        dsimp only at hr hmx2 hwf hcap hcm ht1 ht2 d0 d1 d2
        have hby : ∀ v ∈ b, 0 ≤ v ∧ v < 256 := fun v hv => bounds_u8 (hwf v hv)
        clear hx ht
        by_cases h5 : 500 < n
        · have h5I : (500 : Int) < (n : Int) := by omega
          clear hr hmx2 hwf hcap hcm ht1 ht2 hby h5 hlt
          go_wp2_with fail
          go_ret
          exact ⟨rfl, H.out.2.2.2.2.2.2.2.2.2.2.2.1⟩
        · have h5I : ¬ (500 : Int) < (n : Int) := by omega
          have HTX := Lib.hid (text11_any wr B n cb b times turn 3000 ((hr.below hb).more hb.size) (by omega) hby ht1 ht2 (by omega))
          clear hr hmx2 hwf hcap hcm ht1 ht2 hby h5 hlt hb
          go_wp2_with fail
          refine HTX.out.mono ?_
          rintro r w3 ⟨nx, cx, Ax, x, rfl, hox, hnx, hxb, hb3⟩
          have hxl := hox.1
          have hXb := H.out.2.2.2.2.2.1
          have hKb := H.out.2.2.1
          have hPb := H.out.2.2.2.1
          have sep : ∀ k, blkOf Ax = some k → c k = 0 := fun k hk => by
            rcases Nat.eq_zero_or_pos (c k) with h | h
            · exact h
            · have h1 := (H.out.1.cb k (by omega)).2; have h2 := (hox.2.lt hk).1; omega
          have HX3 := Lib.hid (⟨hox, hxb, hb3, sep, hnx⟩ : _ ∧ _ ∧ _ ∧ _ ∧ _)
          have HW := Lib.hid (dwrite_any w3 w.heap.size g c M d (H.out.1.keeps hb3) H.out.2.1 Ax nx cx x hox.rd hox.2.capLe (fun _ a e => sep a.block (by rw [e]; rfl)) hxb (by rw [List.length_append]; omega) (by omega))
          have hDB2 := DB.write nx x H.out.2.1 (by omega) (by rw [List.length_append]; omega) hxb
          have HD2 := Lib.hid (⟨hDB2.more (K' := 600000 * i + 100 * nx) (by omega), hXb, hPb⟩ : _ ∧ _ ∧ _)
          have HXL := Lib.hid hxl
          clear hox hxb hb3 sep hDB2 hKb hPb hXb HTX hxl
          go_wp2_with fail
          refine HW.out.mono ?_
          rintro r w4 ⟨rfl, M4, c4, h4, hd4⟩
          have HFL := Lib.hid (dflush_any w4 w.heap.size g c4 M4 _ h4 HD2.out.1 (by omega))
          have HD4 := Lib.hid hd4
          clear h4 hd4 HW
          go_wp2_with fail
          refine HFL.out.mono ?_
          rintro r w5 ⟨rfl, M5, c5, h5, hd5⟩
          have hDB5 := HD2.out.1.flush
          obtain ⟨d5, hd5n⟩ : ∃ q, flushD (writeD nx d x) = q := ⟨_, rfl⟩
          have hfl := HD2.out.1.1.flush
          rw [hd5n] at h5 hDB5 hfl
          have HTK := Lib.hid (dtake_any w5 w.heap.size g c5 M5 d5 false h5)
          have H5 := Lib.hid (⟨h5, HD4.out.trans hd5, hDB5, hfl⟩ : _ ∧ _ ∧ _ ∧ _)
          clear h5 hd5 hDB5 hfl hd5n HFL HD4
          go_wp2_with fail
          refine HTK.out.mono ?_
          rintro r w6 ⟨rfl, h61, h62, h63⟩
          obtain ⟨c6, hE6, hd6⟩ := H5.out.1.taken h62 h63
          have hd36 := H5.out.2.1.trans hd6
          have hlt3 := HX3.out.2.2.1.size
          have hoo6 := hd36.2.1.ownI (H.out.2.2.2.2.2.2.1.keeps HX3.out.2.2.1) (fun k hk e => e (H.out.2.2.2.2.2.2.2.2.1 k hk))
          have hoa6 := hd36.2.1.ownI (H.out.2.2.2.2.2.2.2.1.keeps HX3.out.2.2.1) (fun k hk e => e (H.out.2.2.2.2.2.2.2.2.2.1 k hk))
          have hox6 := hd36.2.1.ownI HX3.out.1 (fun k hk e => e (HX3.out.2.2.2.1 k hk))
          have sp1 : ∀ k, blkOf Ao = some k → c6 k = 0 := fun k hk => by rw [hd36.2.2 k (by have := (H.out.2.2.2.2.2.2.1.2.lt hk).2; omega)]; exact H.out.2.2.2.2.2.2.2.2.1 k hk
          have sp2 : ∀ k, blkOf Aa = some k → c6 k = 0 := fun k hk => by rw [hd36.2.2 k (by have := (H.out.2.2.2.2.2.2.2.1.2.lt hk).2; omega)]; exact H.out.2.2.2.2.2.2.2.2.2.1 k hk
          have hx1 : ∀ k, blkOf Ax = some k → blkOf Ao ≠ some k ∧ blkOf Aa ≠ some k := fun k hk => by
            have h1 := (HX3.out.1.2.lt hk).1
            exact ⟨fun e => by have := (H.out.2.2.2.2.2.2.1.2.lt e).2; omega, fun e => by have := (H.out.2.2.2.2.2.2.2.1.2.lt e).2; omega⟩
          have hno : no ≤ 6000000 * i := by rw [H.out.2.2.2.2.2.2.1.1, byt_length]; have := H.out.2.2.2.1; omega
          have hnw : M5.nw ≤ 6000000 := by have h1 := h61.1; rw [byt_length] at h1; have h2 := H5.out.2.2.1.size; have := HX3.out.2.2.2.2; omega
          have hsz6 := hd36.1.size
          have H6 := Lib.hid (⟨hE6, hd36, hoa6, hox6, sp1, sp2, hx1, hsz6⟩ : _ ∧ _ ∧ _ ∧ _ ∧ _ ∧ _ ∧ _ ∧ _)
          have hb6 : w.heap.size ≤ w6.heap.size := hE6.lo
          clear h62 h63 hE6 hd6 hd36 hoa6 hox6 sp1 sp2 hx1 HTK hsz6 hlt3
          go_wp2_with (first
            | (at_builtin; (refine wpList_app .u8 w.heap.size 5 i0 1 rfl (.tmp 57) (.tmp 59) _ rfl Try.underlying22 Hi.out.1 Hi.out.2.1 Hi.out.2.2.1 Hi.out.2.2.2 rfl hoo6 rfl h61.rd (by omega) (by omega) hb6 ?_)
               intro A7 c7 w7 ho7 hg7 hat7
               have hcA : Chg w6 w7 (fun k => blkOf Ao = some k) := (Chg.refl w6 _).grown hg7 (fun k hk => .inl hk)
               have hE7 := H6.out.1.aside hcA H6.out.2.2.2.2.1
               have hoa7 := hcA.ownI H6.out.2.2.1 (fun k hk e => H.out.2.2.2.2.2.2.2.2.2.2.1 k e hk)
               have hox7 := hcA.ownI H6.out.2.2.2.1 (fun k hk e => (H6.out.2.2.2.2.2.2.1 k hk).1 e)
               have hsp7 : ∀ k, blkOf A7 = some k → c6 k = 0 ∧ blkOf Aa ≠ some k := fun k hk => by
                 rcases hat7 with e | e
                 · exact ⟨H6.out.2.2.2.2.1 k (e ▸ hk), H.out.2.2.2.2.2.2.2.2.2.2.1 k (e ▸ hk)⟩
                 · rw [e] at hk; injection hk with hk
                   refine ⟨?_, fun e2 => ?_⟩
                   · rcases Nat.eq_zero_or_pos (c6 k) with h | h
                     · exact h
                     · have := (H6.out.1.cb k (by omega)).2; omega
                   · have := (H6.out.2.2.1.2.lt e2).2; omega
               have hna : na ≤ 5000 * i := by rw [hoa7.1]; exact H.out.2.2.2.2.2.1
               have hb7 : w.heap.size ≤ w7.heap.size := hE7.lo
               have hnx7 := HX3.out.2.2.2.2
               have H7 := Lib.hid (⟨hE7, ho7, hsp7, hcA⟩ : _ ∧ _ ∧ _ ∧ _)
               clear hcA hE7 ho7 hg7 hat7 hsp7 hoo6 h61 hb6)
            | (at_builtin; (refine wpList_app .u8 w.heap.size 5 i0 1 rfl (.tmp 61) (.tmp 62) _ rfl Try.underlying22 Hi.out.1 Hi.out.2.1 Hi.out.2.2.1 Hi.out.2.2.2 rfl hoa7 rfl hox7.rd (by omega) (by omega) hb7 ?_)
               intro A8 c8 w8 ho8 hg8 hat8))
          have hcA : Chg w7 w8 (fun k => blkOf Aa = some k) := (Chg.refl w7 _).grown hg8 (fun k hk => .inl hk)
          have hE8 := H7.out.1.aside hcA H6.out.2.2.2.2.2.1
          have hoo8 := hcA.ownI H7.out.2.1 (fun k hk e => (H7.out.2.2.1 k hk).2 e)
          have hsp8 : ∀ k, blkOf A8 = some k → c6 k = 0 := fun k hk => by
            rcases hat8 with e | e
            · exact H6.out.2.2.2.2.2.1 k (e ▸ hk)
            · rw [e] at hk; injection hk with hk
              rcases Nat.eq_zero_or_pos (c6 k) with h | h
              · exact h
              · have := (H7.out.1.cb k (by omega)).2; omega
          have hsp9 : ∀ k, blkOf A7 = some k → blkOf A8 ≠ some k := fun k hk e2 => by
            rcases hat8 with e | e
            · rw [e] at e2; exact (H7.out.2.2.1 k hk).2 e2
            · rw [e] at e2; injection e2 with e2; have := (H7.out.2.1.2.lt hk).2; omega
          obtain ⟨f1, f2, t, f3, f4, f5⟩ := H5.out.2.2.2
          have hPL : bts (byt P ++ byt d5.L) = P ++ d5.L := by
            rw [taken_out H.out.2.2.2.2.1]
            exact even_bts (by rw [List.length_append]; have := H.out.2.2.2.2.1; omega) f5
          have hbd : ∀ v ∈ byt P ++ byt d5.L, 0 ≤ v ∧ v < 256 := by rw [taken_out H.out.2.2.2.2.1]; exact byt_bd f5
          have hln : (byt P ++ byt d5.L).length = no + M5.nw := by rw [hoo8.1]
          have HI := Lib.hid (rinflate_any w8 w8.heap.size A7 (no + M5.nw) c7 _ hoo8.rd (Nat.le_refl _) hbd (by omega) 16777216 16777216 (by decide) (by decide) (t, 5) (by rw [hPL]; exact f3))
          have H8 := Lib.hid (⟨hE8, hoo8, ho8, hsp8, hsp9, f1, f2, f4, hcA⟩ : _ ∧ _ ∧ _ ∧ _ ∧ _ ∧ _ ∧ _ ∧ _ ∧ _)
          clear hcA hE8 ho8 hg8 hat8 hsp8 hsp9 hoa7 hox7 hoo8 hb7 hln hbd hPL f1 f2 f3 f4 f5
          go_wp2_with fail
          refine HI.out.mono ?_
          rintro r w9 ⟨gs, col, R, rfl, hM, hbM, hE, hout, hkd, hst, htk, hrest⟩
          have hE5 : R.E = 5 := hE
          have x0 : w9.cell? ⟨gs, 0, none⟩ = some (.slice R.Ao R.no R.co) := hM.cell.cell (i := 0) (by omega)
          have x1 : w9.cell? ⟨gs, 1, none⟩ = some (.int .i64 5) := by rw [← hE5]; exact hM.cell.cell (i := 1) (by omega)
          have hor := hM.out.rd
          rw [show R.out = t.all from hout, H8.out.2.2.2.2.2.2.2.1] at hor
          have ho9 := (H8.out.2.2.1.keeps hbM)
          have hRn : (R.no : Int) ≤ 1000000000 := by have h1 := hor.1; have h2 := ho9.1; omega
          have HSM := Lib.hid (same_any w9 w9.heap.size R.no R.co (na + nx) c8 R.Ao A8 _ _ hor ho9.rd hRn rfl)
          have H9 := Lib.hid hbM
          clear hM hbM hE hout hkd hst htk hrest hE5 hor ho9 hRn HI
          go_wp2_with fail
          refine HSM.out.mono ?_
          rintro r w10 ⟨rfl, q, rfl⟩
          have hbq := bel_drewN H9.out q
          have HQ := Lib.hid hbq
          clear hbq HSM x0 x1
          have HBW : Hid (Below w.heap.size w w8) := by
            have e3 := H.out.2.2.2.2.2.2.2.2.2.2.2.1
            have e4 := e3.trans (HX3.out.2.2.1.mono e3.size)
            have e6 := e4.trans H6.out.2.1.1
            have e7 := e6.trans (H7.out.2.2.2.below (fun k hk => (H.out.2.2.2.2.2.2.1.2.lt hk).1) e6.size)
            exact e7.trans (H8.out.2.2.2.2.2.2.2.2.below (fun k hk => (H.out.2.2.2.2.2.2.2.1.2.lt hk).1) e7.size)
          have hnext : FlRel w g len (len - (i + 1)) (.slice A7 (no + M5.nw) c7) (.slice A8 (na + nx) c8) (.int .i64 ((i : Int) + 1)) (w9.drewN q) := by
            have hE8 := H8.out.1.keeps HQ.out
            have hb8 : Below w.heap.size w (w9.drewN q) := by
              exact HBW.out.trans (HQ.out.mono HBW.out.size)
            have hr0 : (rest d5.L).length = 0 := by rw [rest_length, H8.out.2.2.2.2.2.2.1]
            have hDB := H5.out.2.2.1
            have hXL := HXL.out
            have hnx := HX3.out.2.2.2.2
            have hLs := hDB.size
            refine ⟨i + 1, c6, _, _, 600000 * i + 100 * nx + 100, X ++ x, P ++ d5.L, A7, A8, _, _, _, _, rfl, rfl, by go_num, HLT.out, hE8, ⟨dinv_took hDB.1 H8.out.2.2.2.2.2.2.1, ?_⟩, by omega, ?_, ?_, ?_, ?_, H8.out.2.2.1.keeps HQ.out, fun k hk => (H7.out.2.2.1 k hk).1, H8.out.2.2.2.1, H8.out.2.2.2.2.1, hb8, rfl⟩
            · have := hDB.2
              show (rest d5.L).length + 100 * d5.raw.length ≤ _
              omega
            · rw [List.length_append]; have := H.out.2.2.2.1; have := HLN.out; have := HLT.out; omega
            · rw [List.length_append]; have := H.out.2.2.2.2.1; have := H8.out.2.2.2.2.2.2.1; omega
            · rw [List.length_append]; have := H.out.2.2.2.2.2.1; omega
            · rw [← taken_out H.out.2.2.2.2.1]; exact H8.out.2.1.keeps HQ.out
          have HNX := Lib.hid hnext
          clear hnext
          go_wp2_with fail
          go_roundg (len - (i + 1))
          case measure => have := H.out.2.2.2.2.2.2.2.2.2.2.2.2; have := HLT.out; omega
          case rel => exact HNX.out
      · have hiI : ¬ (i : Int) < (len : Int) := by omega
        obtain rfl : i = len := by omega
        have HCL := Lib.hid (dclose_any wr w.heap.size g c M d H.out.1 H.out.2.1 (by have := H.out.2.2.1; have := HLN.out; omega))
        clear hlt hi
        go_wp2_with fail
        refine HCL.out.mono ?_
        rintro r w5 ⟨rfl, M5, c5, h5, hd5⟩
        have hfl := H.out.2.1.1.close
        obtain ⟨d5, hd5n⟩ : ∃ q, closeD d = q := ⟨_, rfl⟩
        rw [hd5n] at h5 hfl
        have HTK := Lib.hid (dtake_any w5 w.heap.size g c5 M5 d5 true h5)
        have hcl := H.out.2.1.closeL
        rw [hd5n] at hcl
        have hoo5 := hd5.2.1.ownI H.out.2.2.2.2.2.2.1 (fun k hk e => e (H.out.2.2.2.2.2.2.2.2.1 k hk))
        have hoa5 := hd5.2.1.ownI H.out.2.2.2.2.2.2.2.1 (fun k hk e => e (H.out.2.2.2.2.2.2.2.2.2.1 k hk))
        have hsp5 : ∀ k, blkOf Ao = some k → c5 k = 0 := fun k hk => by rw [hd5.2.2 k (H.out.2.2.2.2.2.2.1.2.lt hk).2]; exact H.out.2.2.2.2.2.2.2.2.1 k hk
        have hsp6 : ∀ k, blkOf Aa = some k → c5 k = 0 := fun k hk => by rw [hd5.2.2 k (H.out.2.2.2.2.2.2.2.1.2.lt hk).2]; exact H.out.2.2.2.2.2.2.2.2.2.1 k hk
        have H5 := Lib.hid (⟨h5, H.out.2.2.2.2.2.2.2.2.2.2.2.1.trans hd5.1, hfl, hcl, hoo5, hoa5, hsp5, hsp6⟩ : _ ∧ _ ∧ _ ∧ _ ∧ _ ∧ _ ∧ _ ∧ _)
        clear h5 hd5 hfl hcl hoo5 hoa5 hsp5 hsp6 hd5n HCL
        go_wp2_with fail
        refine HTK.out.mono ?_
        rintro r w6 ⟨rfl, h61, h62, h63⟩
        have hgw : c5 M5.gw = 3 := H5.out.1.cw M5.gw (.inl rfl)
        have hoo6 := h63.ownI H5.out.2.2.2.2.1 (fun k hk e => by have h1 := H5.out.2.2.2.2.2.2.1 k hk; have h2 : k = M5.gw := e; rw [h2] at h1; omega)
        have hoa6 := h63.ownI H5.out.2.2.2.2.2.1 (fun k hk e => by have h1 := H5.out.2.2.2.2.2.2.2 k hk; have h2 : k = M5.gw := e; rw [h2] at h1; omega)
        have hb6 := H5.out.2.1.trans (h63.below (fun k hk => by rw [hk]; exact (H5.out.1.cb M5.gw (by omega)).1) H5.out.2.1.size)
        have hno : no ≤ 6000000 * 8 := by rw [hoo6.1, byt_length]; have := H.out.2.2.2.1; have := HLN.out; omega
        have hnw : M5.nw ≤ 6000000 := by rw [h61.1, byt_length]; have h2 := H5.out.2.2.2.1; have := H.out.2.2.1; have := HLN.out; omega
        have hb6s := hb6.size
        have H6 := Lib.hid (⟨hoa6, hb6⟩ : _ ∧ _)
        clear h62 h63 hoa6 hb6 hgw HTK
        go_wp2_with (at_builtin; (refine wpList_app .u8 w.heap.size 5 i0 1 rfl (.tmp 83) (.tmp 85) _ rfl Try.underlying22 Hi.out.1 Hi.out.2.1 Hi.out.2.2.1 Hi.out.2.2.2 rfl hoo6 rfl h61.rd (by omega) (by omega) hb6s ?_)
                     intro A7 c7 w7 ho7 hg7 hat7)
        have hcA : Chg w6 w7 (fun k => blkOf Ao = some k) := (Chg.refl w6 _).grown hg7 (fun k hk => .inl hk)
        have hoa7 := hcA.ownI H6.out.1 (fun k hk e => H.out.2.2.2.2.2.2.2.2.2.2.1 k e hk)
        have hb7 := H6.out.2.trans (hcA.below (fun k hk => (hoo6.2.lt hk).1) hb6s)
        obtain ⟨t, f1, f2, f3, f4, f5⟩ := H5.out.2.2.1
        have hPL : bts (byt P ++ byt d5.L) = P ++ d5.L := by
          rw [taken_out H.out.2.2.2.2.1]
          exact even_bts f4 f5
        have hbd : ∀ v ∈ byt P ++ byt d5.L, 0 ≤ v ∧ v < 256 := by rw [taken_out H.out.2.2.2.2.1]; exact byt_bd f5
        have hln : (byt P ++ byt d5.L).length = no + M5.nw := by rw [ho7.1]
        have HI := Lib.hid (rinflate_any w7 w7.heap.size A7 (no + M5.nw) c7 _ ho7.rd (Nat.le_refl _) hbd (by omega) 16777216 16777216 (by decide) (by decide) (t, 8) (by rw [hPL]; exact f1))
        have H7 := Lib.hid (⟨hoa7, hb7, f2, f3, hln⟩ : _ ∧ _ ∧ _ ∧ _ ∧ _)
        have hnI : (0 : Int) ≤ (no : Int) + (M5.nw : Int) ∧ (no : Int) + (M5.nw : Int) ≤ 100000000 := by omega
        clear hcA hoa7 hb7 hPL hbd hln f1 f2 f3 f4 f5 ho7 hg7 hat7 hoo6 h61 hb6s hno hnw
        go_wp2_with fail
        refine HI.out.mono ?_
        rintro r w9 ⟨gs, col, R, rfl, hM, hbM, hE, hout, hkd, hst, htk, hrest⟩
        have hE0 : R.E = 0 := hE
        have hrs : R.rest = (no : Int) + (M5.nw : Int) := by rw [hrest rfl, H7.out.2.2.1, H7.out.2.2.2.2]; simp
        have x0 : w9.cell? ⟨gs, 0, none⟩ = some (.slice R.Ao R.no R.co) := hM.cell.cell (i := 0) (by omega)
        have x1 : w9.cell? ⟨gs, 1, none⟩ = some (.int .i64 0) := by rw [← hE0]; exact hM.cell.cell (i := 1) (by omega)
        have x2 : w9.cell? ⟨gs, 2, none⟩ = some (.int .i64 ((no : Int) + (M5.nw : Int))) := by rw [← hrs]; exact hM.cell.cell (i := 2) (by omega)
        have hor := hM.out.rd
        rw [show R.out = t.all from hout, H7.out.2.2.2.1] at hor
        have ho9 := H7.out.1.keeps hbM
        have hRn : (R.no : Int) ≤ 1000000000 := by have h1 := hor.1; have h2 := H.out.2.2.2.2.2.1; have := HLN.out; omega
        have HSM := Lib.hid (same_any w9 w9.heap.size R.no R.co na ca R.Ao Aa _ _ hor ho9.rd hRn rfl)
        have H9 := Lib.hid (H7.out.2.1.trans (hbM.mono H7.out.2.1.size))
        clear hM hbM hE hout hkd hst htk hrest hE0 hor ho9 hRn HI hrs
        go_wp2_with fail
        refine HSM.out.mono ?_
        rintro r w10 ⟨rfl, q, rfl⟩
        have hbq := bel_drewN H9.out q
        go_wp2_with fail
        go_ret
        exact ⟨rfl, hbq⟩
end Go.Proofs.Ytlgkiookobedcaa
