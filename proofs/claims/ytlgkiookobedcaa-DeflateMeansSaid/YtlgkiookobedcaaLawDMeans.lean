/-
  The walk of the statement DeflateMeans.
-/
import Derived.Test.YtlgkiookobedcaaProg
import Derived.Test.YtlgkiookobedcaaAns11
import Derived.Test.YtlgkiookobedcaaPk8
import Derived.Test.YtlgkiookobedcaaPk24
import Derived.Test.YtlgkiookobedcaaOpenX
namespace Go.Proofs.Ytlgkiookobedcaa
open Go.RowKit
set_option linter.unusedVariables false
theorem own_max {w : World} {b0 : Nat} {e : TypeId} {sz n c : Nat} {A : Option Addr} {f : Nat → Value} (h : Own w b0 e sz A n c f) : n ≤ 9223372036854775807 := by
  rcases h with ⟨_, h, _⟩ | ⟨g, cur, _, _, _, h1, h2, _⟩
  · omega
  · have : maxLen = 9223372036854775807 := rfl
    omega
set_option maxRecDepth 100000 in
set_option maxHeartbeats 4000000 in
theorem dmeans_law (t : TxV) (lev : Int) (w : World) (hT : InX w t) (hlev : (Lit.int .i64 lev).wf = true) :
    Calls Try.prog 3 #[t.v, .int .i64 lev] w fun e w' => e = .returned (.bool true) ∧ Below w.heap.size w w' := by
  obtain ⟨A, n, cp, b, times, turn⟩ := t
  obtain ⟨⟨hr, hmx, hwf, hcap, hcm⟩, ht1, ht2⟩ := hT
  dsimp only at hr hmx hwf hcap hcm ht1 ht2
  have hl := bounds_i64 hlev
  have hby : ∀ v ∈ b, 0 ≤ v ∧ v < 256 := fun v hv => bounds_u8 (hwf v hv)
  have hb0 : Below w.heap.size w (w.alloc (.cells #[.slice A n cp, .int .u16 times, .int .u16 turn] 25)) := (Below.refl w.heap.size w).alloc (Nat.le_refl _) _
  by_cases hbig : 2000 < n
  · have hc : (2000 : Int) < n := by omega
    have HB0 := Lib.hid hb0
    clear hr hmx hwf hcap hcm hl hby hbig hlev ht1 ht2 hb0
    unfold TxV.v
    go_enter Try.func3, Try.ntmps3
    go_wp2_with fail
    refine (answers11_any _).mono ?_
    rintro e wa ⟨rfl, hba⟩
    have HB1 := Lib.hid (HB0.out.trans (hba.mono (by simp)))
    clear hba
    go_wp2_with fail
    go_ret
    exact ⟨rfl, HB1.out⟩
  · have hn1 : ¬ (2000 : Int) < n := by omega
    have HTX := Lib.hid (text11_any (w.alloc (.cells #[.slice A n cp, .int .u16 times, .int .u16 turn] 25)) A n cp b times turn 60000 ((hr.below hb0).more (by simp)) (by omega) hby ht1 ht2 (by omega))
    have HH := Lib.hid (⟨hb0, hl⟩ : _ ∧ _)
    have hi := info_parts tbyte_info
    obtain ⟨i0, hi, hz0, hz1, hz2⟩ := hi
    have Hi := Lib.hid (⟨hi, hz0, hz1, hz2⟩ : _ ∧ _ ∧ _ ∧ _)
    clear hr hmx hwf hcap hcm hl hby hbig hlev ht1 ht2 hb0 hi hz0 hz1 hz2
    unfold TxV.v
    go_enter Try.func3, Try.ntmps3
    go_wp2_with fail
    refine HTX.out.mono ?_
    rintro r w1 ⟨n1, c1, A1, x, rfl, ho1, hn1b, hxb, hb1⟩
    have hb1' := HH.out.1.trans (hb1.mono (by simp))
    have H1 := Lib.hid (⟨hb1', ho1, hxb, hn1b, ho1.1⟩ : _ ∧ _ ∧ _ ∧ _ ∧ _)
    have hr1 := ho1.rd.alloc (Nat.le_refl _) (.cells #[] 5)
    have hoL := OwnI.lit (k := .u8) (w := w1) (b0 := w1.heap.size) rfl [] 5 (Nat.le_refl _) (by simp)
    have hb1s : w1.heap.size ≤ (w1.alloc (.cells #[] 5)).heap.size := by simp
    clear ho1 hb1 hb1' hxb
    go_wp2_with (at_builtin; (refine wpList_app .u8 w1.heap.size 5 i0 1 rfl (.tmp 17) (.tmp 18) _ rfl Try.underlying22 Hi.out.1 Hi.out.2.1 Hi.out.2.2.1 Hi.out.2.2.2 rfl hoL rfl hr1 (by simp; omega) (by omega) hb1s ?_)
                 intro A2 d2 w2 ho2 hg2 hat2)
    have hb2 : Below w1.heap.size w1 w2 := ((Below.refl w1.heap.size w1).alloc (Nat.le_refl _) _).grown hg2 (by simp) (by simp [blkOf])
    simp only [List.nil_append, Nat.zero_add] at ho2
    have hxl : x.length ≤ 16777216 := by have := H1.out.2.2.2; omega
    have HW := Lib.hid (dwhole_any w2 A2 n1 d2 x lev (by simpa using ho2.rd) (by have := ho2.2.capLe; simpa using this) H1.out.2.2.1 hxl HH.out.2)
    have H2 := Lib.hid (⟨hb2, hxl⟩ : _ ∧ _)
    clear hoL hr1 hb1s ho2 hg2 hat2 hb2 hxl HTX
    go_wp2_with fail
    refine HW.out.mono ?_
    rintro r w3 ⟨A3, n3, k3, rfl, ho3, hb3⟩
    obtain ⟨t, f1, f2, f3, f4, f5, f6, f7, f8, f9⟩ := whole_fin lev (x := x) H2.out.2 H1.out.2.2.1
    have hn3 := ho3.1
    have HI := Lib.hid (rinflate_any w3 w3.heap.size A3 n3 k3 (wholeB lev x) ho3.rd (Nat.le_refl _) f8 (by have := H2.out.2; omega) 16777216 16777216 (by decide) (by decide) (t, 8) f1)
    have hb13 := H2.out.1.trans (hb3.mono H2.out.1.size)
    rw [← hn3, ← H1.out.2.2.2.2] at f7
    have hn1I : (0 : Int) ≤ (n1 : Int) ∧ (n1 : Int) ≤ 62000 ∧ (n3 : Int) ≤ 100000 := by omega
    have H3 := Lib.hid (⟨hb13, f2, f3, f4, f5, f6, f7, hn3⟩ : _ ∧ _ ∧ _ ∧ _ ∧ _ ∧ _ ∧ _ ∧ _)
    have HSB := Lib.hid f9
    clear ho3 hb3 f1 f2 f3 f4 f5 f6 f7 f8 f9 hn3 hb13 HW
    go_wp2_with fail
    refine HI.out.mono ?_
    rintro r w4 ⟨g, col, R, rfl, hM, hbM, hE, hout, hkd, hst, htk, hrest⟩
    have hE0 : R.E = 0 := hE
    have hrs : R.rest = (n3 : Int) := by rw [hrest rfl, H3.out.2.1, H3.out.2.2.2.2.2.2.2]; simp
    have hb14 := H3.out.1.trans (hbM.mono H3.out.1.size)
    have H4 := Lib.hid (⟨hM, hb14, hE0, hrs, hout.trans H3.out.2.2.1, hkd, hst⟩ : _ ∧ _ ∧ _ ∧ _ ∧ _ ∧ _ ∧ _)
    clear hM hbM hE hout hkd hst htk hrest hE0 hrs hb14 HI
    go_wp2_with fail
    refine (answers11_any w4).mono ?_
    rintro r w5 ⟨rfl, hb5⟩
    have hRb := H4.out.1.cell.keeps hb5
    have x0 : w5.cell? ⟨g, 0, none⟩ = some (.slice R.Ao R.no R.co) := hRb.cell (i := 0) (by omega)
    have x1 : w5.cell? ⟨g, 1, none⟩ = some (.int .i64 0) := by rw [← H4.out.2.2.1]; exact hRb.cell (i := 1) (by omega)
    have x2 : w5.cell? ⟨g, 2, none⟩ = some (.int .i64 (n3 : Int)) := by rw [← H4.out.2.2.2.1]; exact hRb.cell (i := 2) (by omega)
    have x3 : w5.cell? ⟨g, 3, none⟩ = some (.slice R.Ak R.nk R.ck) := hRb.cell (i := 3) (by omega)
    have x4 : w5.cell? ⟨g, 4, none⟩ = some (.slice R.As R.ns R.cs) := hRb.cell (i := 4) (by omega)
    have hor := (H4.out.1.out.keeps hb5).rd
    rw [H4.out.2.2.2.2.1] at hor
    have hkr := (H4.out.1.kinds.keeps hb5).rd
    have hsr := (H4.out.1.stops.keeps hb5).rd
    have hb15 := H4.out.2.1.trans (hb5.mono H4.out.2.1.size)
    have hx5 : RdI .u8 w5 w5.heap.size A1 n1 x := (H1.out.2.1.keeps hb15).rd
    have HSM := Lib.hid (same_any w5 w5.heap.size R.no R.co n1 c1 R.Ao A1 x x hor hx5 (by have := hor.1; have := hx5.1; omega) rfl)
    have hdv : (n1 : Int) / 16384 = ((n1 / 16384 : Nat) : Int) := by omega
    obtain ⟨D, hD⟩ : ∃ D, n1 / 16384 = D := ⟨_, rfl⟩
    have hln := H3.out.2.2.2.2.2.2.1
    rw [hD] at hdv hln
    have hDb : (0 : Int) ≤ (D : Int) ∧ (D : Int) ≤ 10 := by omega
    have hge : ¬ (n1 : Int) + 6 * ((D : Int) + 1) + 6 < (n3 : Int) := by omega
    have H5 := Lib.hid (⟨HH.out.1, H1.out.1.trans (hb15.mono H1.out.1.size), hkr, hsr⟩ : _ ∧ _ ∧ _ ∧ _)
    have hkn : R.nk = t.kinds.length := by rw [hkr.1, H4.out.2.2.2.2.2.1]
    have hsn : R.ns = t.stops.length := by rw [hsr.1, H4.out.2.2.2.2.2.2]
    have hks := H3.out.2.2.2.2.1
    clear hRb hor hkr hsr hb15 hx5 hb5 hD hln
    go_wp2_with fail
    refine HSM.out.mono ?_
    rintro r w6 ⟨rfl, q, rfl⟩
    have hbq := bel_drewN H5.out.2.1 q
    go_wp2_with fail
    go_loopg [8, 9] R.nk (fun (gk : Nat) (v8 v9 : Value) wx => ∃ (i : Nat) (s : Int), v8 = .int .i64 s ∧ v9 = .int .i64 i ∧ i ≤ R.nk ∧ wx = w5.drewN q ∧ 0 ≤ s ∧ s ≤ 16777216 ∧ Hid (s = if i = 0 then 0 else ix t.stops (i - 1)) ∧ Hid (gk = R.nk - i))
    case atStart => exact ⟨0, 0, rfl, rfl, Nat.zero_le _, rfl, by omega, by omega, rfl, rfl⟩
    case round =>
      obtain ⟨i, s, rfl, rfl, hi, rfl, hs0, hs1, hs, hg⟩ := hrel
      by_cases hlt : i < R.nk
      · obtain ⟨ak, hak, hakb, hck⟩ := (H5.out.2.2.1).at_ (i := i) hlt
        obtain ⟨sa, hsa, hsab, hcs⟩ := (H5.out.2.2.2).at_ (i := i) (by omega)
        rw [hak] at x3
        rw [hsa] at x4
        have hnk9 := own_max H4.out.1.kinds.2
        have hiI : (i : Int) < (R.nk : Int) ∧ (0 : Int) ≤ (i : Int) ∧ (i : Int) < (R.ns : Int) ∧ (i : Int) + 1 ≤ 9223372036854775807 := by omega
        clear hnk9
        have hks2 : ix R.kinds i = ix t.kinds i ∧ ix R.stops i = ix t.stops i := ⟨by rw [H4.out.2.2.2.2.2.1], by rw [H4.out.2.2.2.2.2.2]⟩
        rw [hks2.1] at hck
        rw [hks2.2] at hcs
        have hkz : lev ≤ 0 → ix t.kinds i = 0 := fun h => H3.out.2.2.2.1 h _ (ix_mem (by omega))
        have hgap := H3.out.2.2.2.2.2.1 i (by omega)
        have hlts : i < t.stops.length := by omega
        have hsb := HSB.out _ (ix_mem hlts)
        rw [← hs.out] at hgap
        have hnext : ix t.stops i = if i + 1 = 0 then 0 else ix t.stops (i + 1 - 1) := by rw [if_neg (by omega)]; rfl
        obtain ⟨S2, hS2⟩ : ∃ S, ix t.stops i = S := ⟨_, rfl⟩
        obtain ⟨K2, hK2⟩ : ∃ S, ix t.kinds i = S := ⟨_, rfl⟩
        rw [hS2] at hcs hgap hsb hnext
        rw [hK2] at hck hkz
        have hgI : ¬ (16642 : Int) < S2 - s := by omega
        have HX := Lib.hid (⟨hnext, hlt, hkn, hsn⟩ : _ ∧ _ ∧ _ ∧ _)
        clear hks2 hnext hS2 hK2 hs hak hsa hlts hgap hlt hkn hsn hks
        by_cases hl0 : lev ≤ 0
        · obtain rfl := hkz hl0
          go_wp2_with fail
          go_roundg (R.nk - (i + 1))
          case measure => have := hg.out; have := HX.out.2.1; omega
          case rel => exact ⟨i + 1, S2, by go_num, by go_num, HX.out.2.1, rfl, hsb.1, hsb.2, HX.out.1, rfl⟩
        · have hl1 : decide (lev ≤ 0) = false := by simpa using hl0
          clear hkz
          go_wp2_with fail
          go_roundg (R.nk - (i + 1))
          case measure => have := hg.out; have := HX.out.2.1; omega
          case rel => exact ⟨i + 1, S2, by go_num, by go_num, HX.out.2.1, rfl, hsb.1, hsb.2, HX.out.1, rfl⟩
      · have hiI : ¬ (i : Int) < (R.nk : Int) := by omega
        go_wp2_with fail
        go_ret
        exact ⟨rfl, hbq⟩
end Go.Proofs.Ytlgkiookobedcaa
