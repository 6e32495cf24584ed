/-
  The walk of the statement DeflateOver.
-/
import Derived.Test.YtlgkiookobedcaaProg
import Derived.Test.YtlgkiookobedcaaAns11
import Derived.Test.YtlgkiookobedcaaPk8
import Derived.Test.YtlgkiookobedcaaPk29
namespace Go.Proofs.Ytlgkiookobedcaa
open Go.RowKit
set_option linter.unusedVariables false
theorem EncM.taken {w w' : World} {b0 g : Nat} {c : Nat → Nat} {M : EM} {d : DSt} {done : Bool} (h : EncM w b0 g c M d done) (hw : Wtr w' b0 M.gw none 0 0 (rest d.L)) (hc : Chg w w' (fun k => k = M.gw)) :
    EncS w c w' b0 g { M with Aw := none, nw := 0, cw := 0 } { d with L := rest d.L } done :=
  h.refl.writer (hc.more fun k hk => .inl hk) hw (fun k hk => by
    rcases hk with hk | hk
    · exact .inl (.inl hk)
    · simp [blkOf] at hk)
set_option maxRecDepth 100000 in
set_option maxHeartbeats 4000000 in
theorem dover_law (A : Option Addr) (n cp : Nat) (l : List Int) (lev : Int) (w : World) (hA : InC .u8 w A n cp l) (hlev : (Lit.int .i64 lev).wf = true) :
    Calls Try.prog 5 #[.slice A n cp, .int .i64 lev] w fun e w' => e = .returned (.bool true) ∧ Below w.heap.size w w' := by
  obtain ⟨hr, hmx, hwf, hcap, hcm⟩ := hA
  have hl := bounds_i64 hlev
  have hby : ∀ v ∈ l, 0 ≤ v ∧ v < 256 := fun v hv => bounds_u8 (hwf v hv)
  have hm : n = l.length := hr.1
  by_cases hbig : 2000 < n
  · have HA := Lib.hid (answers11_any w)
    have hc : (2000 : Int) < n := by omega
    clear hr hmx hwf hcap hcm hl hby hm hbig hlev
    go_enter Try.func5, Try.ntmps5
    go_wp2_with fail
    refine HA.out.mono ?_
    rintro e wa ⟨rfl, hba⟩
    go_wp2_with fail
    go_ret
    exact ⟨rfl, hba⟩
  · have hn1 : ¬ (2000 : Int) < n := by omega
    have HN := Lib.hid (dnew_any lev w hl)
    have HH := Lib.hid (⟨hr, hcap, hby, hm, hl, hbig⟩ : _ ∧ _ ∧ _ ∧ _ ∧ _ ∧ _)
    clear hr hmx hwf hcap hcm hl hby hm hbig hlev
    go_enter Try.func5, Try.ntmps5
    go_wp2_with fail
    refine HN.out.mono ?_
    rintro r w1 ⟨g, c, M, rfl, h1, hb1⟩
    have HW := Lib.hid (dwrite_any w1 w.heap.size g c M (newD lev) h1 (DB.new lev) A n cp l ((HH.out.1.below hb1).more hb1.size) HH.out.2.1 (h1.far0 HH.out.1 (Nat.le_refl _)) HH.out.2.2.1 (by rw [List.nil_append]; have := HH.out; omega) (by have := HH.out; omega))
    have HB1 := Lib.hid hb1
    clear h1 hb1 HN
    go_wp2_with fail
    refine HW.out.mono ?_
    rintro r w2 ⟨rfl, M2, c2, h2, hd2⟩
    have hDB := DB.write n (K := 0) (X := []) (P := []) (d := newD lev) l (DB.new lev) (by have := HH.out.2.2.2.1; omega) (by rw [List.nil_append]; have := HH.out; omega) HH.out.2.2.1
    have HC := Lib.hid (dclose_any w2 w.heap.size g c2 M2 _ h2 hDB (by have := HH.out; omega))
    have HD2 := Lib.hid hd2
    clear h2 hd2 hDB HW
    go_wp2_with fail
    refine HC.out.mono ?_
    rintro r w3 ⟨rfl, M3, c3, h3, hd3⟩
    have hD : closeD (writeD n (newD lev) l) = wholeD lev l := by rw [HH.out.2.2.2.1]; rfl
    rw [hD] at h3
    have HT := Lib.hid (dtake_any w3 w.heap.size g c3 M3 _ true h3)
    have H3 := Lib.hid (⟨h3, HB1.out.trans (HD2.out.1.trans hd3.1)⟩ : _ ∧ _)
    clear h3 hd3 HC hD HD2
    go_wp2_with fail
    refine HT.out.mono ?_
    rintro r w4 ⟨rfl, h4, h5, h6⟩
    obtain ⟨c4, hE4, hd4⟩ := H3.out.1.taken h5 h6
    have H4 := Lib.hid (⟨hE4, H3.out.2.trans hd4.1, h4⟩ : _ ∧ _ ∧ _)
    clear h4 h5 h6 hE4 hd4 HT
    go_wp2_with fail
    refine (answers11_any w4).mono ?_
    rintro r w5 ⟨rfl, hb5⟩
    have hE5 := H4.out.1.keeps hb5
    have c55 := hE5.cells.2.2.2.2.2
    have HT5 := Lib.hid (dtake_any w5 w.heap.size g c4 _ _ true hE5)
    have H5 := Lib.hid (⟨H4.out.2.1.trans (hb5.mono H4.out.2.1.size), H4.out.2.2.keeps hb5, hE5.cb M3.gw (by rw [hE5.cw M3.gw (.inl rfl)]; decide)⟩ : _ ∧ _ ∧ _)
    clear hE5 hb5
    go_wp2_with fail
    refine (dwrite_done w5 g _ c55).mono ?_
    rintro r wx ⟨rfl, hx⟩
    obtain rfl := hx
    go_wp2_with fail
    refine (dflush_done w5 g c55).mono ?_
    rintro r wx ⟨rfl, hx⟩
    obtain rfl := hx
    go_wp2_with fail
    refine (dclose_done w5 g c55).mono ?_
    rintro r wx ⟨rfl, hx⟩
    obtain rfl := hx
    go_wp2_with fail
    refine HT5.out.mono ?_
    rintro r w6 ⟨rfl, h61, h62, h63⟩
    have hb6 := H5.out.1.trans (h63.below (fun k hk => by rw [hk]; exact H5.out.2.2.1) H5.out.1.size)
    have ho6 := h63.ownI H5.out.2.1 (fun q hq e => by have := H3.out.1.wtr.apart; rw [hq, e] at this; exact this rfl)
    have HWH := Lib.hid (dwhole_any w6 A n cp l lev ((HH.out.1.below hb6).more hb6.size) HH.out.2.1 HH.out.2.2.1 (by have := HH.out; omega) HH.out.2.2.2.2.1)
    have H6 := Lib.hid (⟨hb6, ho6⟩ : _ ∧ _)
    clear h61 h62 h63 hb6 ho6 HT5 c55
    go_wp2_with fail
    refine HWH.out.mono ?_
    rintro r w7 ⟨A7, n7, k7, rfl, ho7, hb7⟩
    have hx7 := (H6.out.2.keeps hb7).rd
    have hn7 : (M3.nw : Int) ≤ 1000000000 := by have h1 := hx7.1; have h2 := (whole_fin lev (x := l) (by have := HH.out; omega) HH.out.2.2.1); obtain ⟨_, _, _, _, _, _, _, h3, _⟩ := h2; have := HH.out; rw [h1, show byt (wholeD lev l).L = wholeB lev l from rfl]; omega
    have HSM := Lib.hid (same_any w7 w7.heap.size M3.nw M3.cw n7 k7 M3.Aw A7 _ _ hx7 ho7.rd hn7 rfl)
    have H7 := Lib.hid (H6.out.1.trans (hb7.mono H6.out.1.size))
    clear ho7 hb7 hx7 hn7 HWH
    go_wp2_with fail
    refine HSM.out.mono ?_
    rintro r w8 ⟨rfl, q, rfl⟩
    have H8 := Lib.hid (bel_drewN H7.out q)
    go_wp2_with fail
    refine (dwrite_nil _ _).mono ?_
    rintro r wx ⟨rfl, hx⟩
    obtain rfl := hx
    go_wp2_with fail
    refine (dflush_nil _).mono ?_
    rintro r wx ⟨rfl, hx⟩
    obtain rfl := hx
    go_wp2_with fail
    refine (dclose_nil _).mono ?_
    rintro r wx ⟨rfl, hx⟩
    obtain rfl := hx
    go_wp2_with fail
    refine (dtake_nil _).mono ?_
    rintro r wx ⟨rfl, hx⟩
    obtain rfl := hx
    go_wp2_with fail
    go_ret
    exact ⟨rfl, H8.out⟩
end Go.Proofs.Ytlgkiookobedcaa
