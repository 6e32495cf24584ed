/-
  The walk of paired: two neighbours each are one pack.
-/
import Derived.Test.YtbllgifmidnkhaaLimL
namespace Go.Proofs.Ytbllgifmidnkhaa
open Go.RowKit
set_option linter.unusedVariables false
theorem All2.at_ {α β : Type} {R : α → β → Prop} {xs : List α} {ys : List β} (h : All2 R xs ys) (a : α) (b : β) : ∀ i, i < xs.length → R (xs.getD i a) (ys.getD i b) := by
  induction h with
  | nil => intro i hi; simp at hi
  | cons h1 _ ih =>
    intro i hi
    cases i with
    | zero => exact h1
    | succ i => exact ih i (by simpa using hi)
theorem pairs_at (L : List Pk) (t : Nat) (h : 2 * t + 1 < L.length) : (pairsP L).take (t + 1) = (pairsP L).take t ++ [⟨(L.getD (2 * t) ⟨0, []⟩).w + (L.getD (2 * t + 1) ⟨0, []⟩).w, (L.getD (2 * t) ⟨0, []⟩).l ++ (L.getD (2 * t + 1) ⟨0, []⟩).l⟩] := by
  induction L using pairsP.induct generalizing t with
  | case1 a b r ih =>
    rw [pairsP]
    cases t with
    | zero => rfl
    | succ t =>
      have := ih t (by simp only [List.length_cons] at h; omega)
      rw [List.take_succ_cons, List.take_succ_cons, this]
      rw [show 2 * (t + 1) = 2 * t + 1 + 1 by omega, show 2 * t + 1 + 1 + 1 = (2 * t + 1) + 1 + 1 by omega]
      rfl
  | case2 u h' =>
    match u, h' with
    | [], _ => simp at h
    | [a], _ => simp at h
    | a :: b :: r, h' => exact absurd rfl (h' a b r)
def pF (v : Int) (A : Option Addr) (n c : Nat) (j : Nat) : Value := if j = 0 then .int .i64 v else .slice A n c
def PdB (wr : World) (xw yw : Int) (xA yA : Option Addr) (xn xc yn yc : Nat) (v5 v6 : Value) (wx : World) : Prop :=
  ∃ g5 g6, v5 = .pointer (some ⟨g5, 0, none⟩) ∧ v6 = .pointer (some ⟨g6, 0, none⟩) ∧ Ar wx g5 2 (pF xw xA xn xc) ∧ Ar wx g6 2 (pF yw yA yn yc) ∧ wr.heap.size ≤ g5 ∧ wr.heap.size ≤ g6 ∧ Below wr.heap.size wr wx
theorem ar_pack {w : World} {g : Nat} (hg : g = w.heap.size) (v : Int) (A : Option Addr) (n c : Nat) (t : TypeId) : Ar (w.alloc (.cells #[.int .i64 v, .slice A n c] t)) g 2 (pF v A n c) := by
  subst hg
  exact Ar.new w #[.int .i64 v, .slice A n c] t rfl (fun i hi => by
    obtain rfl | rfl : i = 0 ∨ i = 1 := by omega
    · rfl
    · rfl)
theorem pdb1 (wr : World) (xw yw : Int) (xA yA : Option Addr) (xn xc yn yc : Nat) : PdB wr xw yw xA yA xn xc yn yc (.pointer (some ⟨wr.heap.size, 0, none⟩)) (.pointer (some ⟨wr.heap.size + 1, 0, none⟩)) ((wr.alloc (.cells #[.int .i64 xw, .slice xA xn xc] 40)).alloc (.cells #[.int .i64 yw, .slice yA yn yc] 40)).drew :=
  ⟨_, _, rfl, rfl, ((ar_pack rfl xw xA xn xc _).alloc _).drew, (ar_pack (by simp) yw yA yn yc _).drew, Nat.le_refl _, Nat.le_succ _, (((Below.refl _ wr).alloc (Nat.le_refl _) _).alloc (by simp) _).drew⟩
theorem pdb2 (wr : World) (xw yw : Int) (xA yA : Option Addr) (xn xc yn yc : Nat) : PdB wr xw yw xA yA xn xc yn yc (.pointer (some ⟨wr.heap.size + 1, 0, none⟩)) (.pointer (some ⟨wr.heap.size, 0, none⟩)) ((wr.alloc (.cells #[.int .i64 yw, .slice yA yn yc] 40)).alloc (.cells #[.int .i64 xw, .slice xA xn xc] 40)).drew :=
  ⟨_, _, rfl, rfl, (ar_pack (by simp) xw xA xn xc _).drew, ((ar_pack rfl yw yA yn yc _).alloc _).drew, Nat.le_succ _, Nat.le_refl _, (((Below.refl _ wr).alloc (Nat.le_refl _) _).alloc (by simp) _).drew⟩
def PdR (w : World) (L : List Pk) (k : Nat) (v3 v4 : Value) (wr : World) : Prop :=
  ∃ (t p q c : Nat) (A : Option Addr) (D : List El), v3 = .slice A q c ∧ v4 = .int .i64 p ∧ Hid (p = 2 * t) ∧ OwnP wr w.heap.size A q c D ∧ Below w.heap.size w wr ∧ Hid (All2 (MeanE wr wr.heap.size fun g => blkOf A = some g ∨ g < w.heap.size) D ((pairsP L).take t)) ∧ Hid (k = L.length - p) ∧ p ≤ L.length + 1
def PkPost (w : World) (X : Nat → Prop) (L : List Pk) (e : Ending) (w' : World) : Prop :=
  ∃ g q c, e = .returned (.slice (some ⟨g, 0, none⟩) q c) ∧ Below w.heap.size w w' ∧ PckR w' w'.heap.size X (some ⟨g, 0, none⟩) q L ∧ q ≤ c ∧ w.heap.size ≤ g ∧ g < w'.heap.size
theorem P4 {w' : World} {g5 g6 : Nat} {xw yw : Int} {xA yA : Option Addr} {xn xc yn yc : Nat} (h5 : Ar w' g5 2 (pF xw xA xn xc)) (h6 : Ar w' g6 2 (pF yw yA yn yc)) :
    w'.cell? ⟨g5, 0, none⟩ = some (.int .i64 xw) ∧ w'.cell? ⟨g5, 1, none⟩ = some (.slice xA xn xc) ∧ w'.cell? ⟨g6, 0, none⟩ = some (.int .i64 yw) ∧ w'.cell? ⟨g6, 1, none⟩ = some (.slice yA yn yc) :=
  ⟨h5.cell (i := 0) (by omega), h5.cell (i := 1) (by omega), h6.cell (i := 0) (by omega), h6.cell (i := 1) (by omega)⟩
theorem cat_call (wc : World) (A1 A2 : Option Addr) (n1 c1 n2 c2 : Nat) (l1 l2 : List Int) (h1 : RdI .i64 wc wc.heap.size A1 n1 l1) (h2 : RdI .i64 wc wc.heap.size A2 n2 l2) (hn1 : n1 ≤ 400000) (hn2 : n2 ≤ 400000) :
    Calls Try.prog 22 #[.slice (some ⟨wc.heap.size, 0, none⟩) 2 2] (wc.alloc (.cells #[.slice A1 n1 c1, .slice A2 n2 c2] 22)).drew (MkI (wc.alloc (.cells #[.slice A1 n1 c1, .slice A2 n2 c2] 22)).drew (l1 ++ l2)) := by
  have ha := (Ar.new wc #[.slice A1 n1 c1, .slice A2 n2 c2] 22 (m := 2) (f := fun j => if j = 0 then .slice A1 n1 c1 else .slice A2 n2 c2) rfl (fun i hi => by
    obtain rfl | rfl : i = 0 ∨ i = 1 := by omega
    · rfl
    · rfl)).drew
  refine concat_any _ wc.heap.size wc.heap.size (by simp [World.drew]) A1 A2 n1 c1 n2 c2 l1 l2 (ha.cell (i := 0) (by omega)) (ha.cell (i := 1) (by omega)) (h1.alloc (Nat.le_refl _) _) (h2.alloc (Nat.le_refl _) _) ?_ hn1 hn2
  show wc.heap.size ≤ (wc.alloc _).heap.size
  simp
/-- all packs are small -/
def SmP (L : List Pk) : Prop := ∀ p ∈ L, 0 ≤ p.w ∧ p.w ≤ 1099511627776 ∧ p.l.length ≤ 400000
set_option maxRecDepth 100000 in
set_option maxHeartbeats 8000000 in
theorem paired_any (w : World) (g n c B : Nat) (L : List Pk) (X : Nat → Prop) (hX : ∀ g, X g → g < w.heap.size) (hp : PckR w B X (some ⟨g, 0, none⟩) n L) (hB : B ≤ w.heap.size) (hn : n ≤ 1000) (hsm : SmP L) (h2 : 2 ≤ n) :
    Calls Try.prog 18 #[.slice (some ⟨g, 0, none⟩) n c] w (PkPost w X (pairsP L)) := by
  obtain ⟨i0, hi, hz0, hz1, hz2⟩ := info_parts pck_info
  have Hi := Lib.hid hi
  have Hz0 := Lib.hid hz0
  have Hz1 := Lib.hid hz1
  have Hz2 := Lib.hid hz2
  obtain ⟨D0, hrd, hmean⟩ := hp
  have hnL : n = L.length := hrd.1.trans hmean.length
  have hnI : (0 : Int) ≤ n ∧ (n : Int) ≤ 1000 := by omega
  have HRD := Lib.hid hrd
  have HXX := Lib.hid hX
  clear hX
  have HME := Lib.hid hmean
  have HSM := Lib.hid hsm
  have HNL := Lib.hid (⟨hnL, h2, hB, hn⟩ : _ ∧ _ ∧ _ ∧ _)
  clear hi hz0 hz1 hz2 hrd hmean hsm hnL h2 hB hn
  go_enter Try.func18, Try.ntmps18
  go_wp2_with fail
  go_loopg [3, 4] n (PdR w L)
  case atStart => exact ⟨0, 0, 0, 0, none, [], rfl, rfl, rfl, OwnP.nil_, Below.refl _ _, by rw [List.take_zero]; exact .nil, by show n = _; have := HNL.out.1; omega, by omega⟩
  case round =>
    obtain ⟨t, p, q, c2, A2, D2, rfl, rfl, hpt, ho, hb, hA, hk, hpl⟩ := hrel
    have hnl := HNL.out.1
    obtain ⟨p1, hp1⟩ : ∃ p1, p + 1 = p1 := ⟨_, rfl⟩
    have hs1 : (p : Int) + 1 = (p1 : Int) := by omega
    have hpI : (0 : Int) ≤ p ∧ (p : Int) ≤ 2000 ∧ (0 : Int) ≤ p1 ∧ (p1 : Int) ≤ 2000 := by have := HNL.out; omega
    by_cases hlt : p1 < n
    · obtain ⟨x, hx⟩ : ∃ x, el D0 p = x := ⟨_, rfl⟩
      obtain ⟨y, hy⟩ : ∃ y, el D0 p1 = y := ⟨_, rfl⟩
      have hD0 : D0.length = n := HRD.out.1.symm
      have mx := HME.out.at_ (0, none, 0, 0) ⟨0, []⟩ p (by omega)
      have my := HME.out.at_ (0, none, 0, 0) ⟨0, []⟩ p1 (by omega)
      change MeanE _ _ _ (el D0 p) _ at mx
      change MeanE _ _ _ (el D0 p1) _ at my
      rw [hx] at mx
      rw [hy] at my
      obtain ⟨xw, xA, xn, xc⟩ := x
      obtain ⟨yw, yA, yn, yc⟩ := y
      obtain ⟨ad, had, hadB, hcells⟩ := HRD.out.2 (by omega)
      obtain rfl : ad = ⟨g, 0, none⟩ := by injection had with had; exact had.symm
      have hgw : g < w.heap.size := Nat.lt_of_lt_of_le hadB HNL.out.2.2.1
      have cell : ∀ j, j < n * 2 → wr.cell? ⟨g, j, none⟩ = some (dF D0 j) := fun j hj => by
        have := hcells j hj
        rw [addr0] at this
        exact (hb.cell (p := ⟨g, j, none⟩) hgw).trans this
      have a0 := cell (p * 2) (by omega)
      have a1 := cell (p * 2 + 1) (by omega)
      have b0 := cell (p1 * 2) (by omega)
      have b1 := cell (p1 * 2 + 1) (by omega)
      rw [dF_even D0 rfl, hx] at a0
      rw [dF_odd D0 rfl, hx] at a1
      rw [dF_even D0 rfl, hy] at b0
      rw [dF_odd D0 rfl, hy] at b1
      replace a0 : wr.cell? ⟨g, p * 2, none⟩ = some (.int .i64 xw) := a0
      replace a1 : wr.cell? ⟨g, p * 2 + 1, none⟩ = some (.slice xA xn xc) := a1
      replace b0 : wr.cell? ⟨g, p1 * 2, none⟩ = some (.int .i64 yw) := b0
      replace b1 : wr.cell? ⟨g, p1 * 2 + 1, none⟩ = some (.slice yA yn yc) := b1
      have hltI : (p1 : Int) < (n : Int) ∧ (p : Int) < (n : Int) := by omega
      have w1 : IntKind.i64.wrap ((p : Int) + 1) = (p1 : Int) := by rw [hs1]; exact wr_in (by omega)
      have w2 : IntKind.i64.wrap (p1 : Int) = (p1 : Int) := wr_in (by omega)
      have hgr : g < wr.heap.size := Nat.lt_of_lt_of_le hgw hb.size
      have hgr1 : g < wr.heap.size + 1 := by omega
      have hgr2 : ¬ g = wr.heap.size := by omega
      have hgr3 : ¬ g = wr.heap.size + 1 := by omega
      have HP := Lib.hid (⟨mx, my, hp1, hlt, hnl, hgw, hpl⟩ : _ ∧ _ ∧ _ ∧ _ ∧ _ ∧ _ ∧ _)
      clear cell hcells hx hy hD0 mx my hp1 hlt hnl hgw had hadB hpl
      go_upto_region 5 with fail
      go_cut [5, 6] (fun v5 v6 wx => PdB wr xw yw xA yA xn xc yn yc v5 v6 wx)
      case first =>
        go_region
        all_goals
          go_wp2_with fail
          go_meet
          first
            | exact pdb1 wr xw yw xA yA xn xc yn yc
            | exact pdb2 wr xw yw xA yA xn xc yn yc
      case rest =>
        clear a0 a1 b0 b1 w1 w2 hgr hgr1 hgr2 hgr3
        obtain ⟨g5, g6, rfl, rfl, h5, h6, l5, l6, hbx⟩ := hcut
        obtain ⟨mx, my, hp1, hlt, hnl, hgw, hpl⟩ := HP.out
        have hbw := hb.trans (hbx.mono hb.size)
        have hox := ho.keeps hbx
        have hnum : xw = (L.getD p ⟨0, []⟩).w ∧ yw = (L.getD p1 ⟨0, []⟩).w := ⟨mx.1, my.1⟩
        have rx := (mx.2.1.more HNL.out.2.2.1).below hbw
        have ry := (my.2.1.more HNL.out.2.2.1).below hbw
        have mpx := HSM.out (L.getD p ⟨0, []⟩) (by rw [List.getD_eq_getElem?_getD, List.getElem?_eq_getElem (by omega)]; exact List.getElem_mem _)
        have mpy := HSM.out (L.getD p1 ⟨0, []⟩) (by rw [List.getD_eq_getElem?_getD, List.getElem?_eq_getElem (by omega)]; exact List.getElem_mem _)
        have hwI : (0 : Int) ≤ xw ∧ xw ≤ 1099511627776 ∧ (0 : Int) ≤ yw ∧ yw ≤ 1099511627776 := by omega
        have hxn : xn ≤ 400000 := by have : xn = _ := rx.1; rw [this]; exact mpx.2.2
        have hyn : yn ≤ 400000 := by have : yn = _ := ry.1; rw [this]; exact mpy.2.2
        have HCC := Lib.hid (cat_call wc xA yA xn xc yn yc _ _ (rx.more hbw.size) (ry.more hbw.size) hxn hyn)
        obtain ⟨sw, hsw⟩ : ∃ s, xw + yw = s := ⟨_, rfl⟩
        have hswI : (0 : Int) ≤ sw ∧ sw ≤ 2199023255552 := by omega
        have hwr1 : IntKind.i64.wrap (xw + yw) = sw := by rw [hsw]; exact IntWalk.i64_in _ (by omega)
        have hwr2 : IntKind.i64.wrap sw = sw := IntWalk.i64_in _ (by omega)
        have HX := Lib.hid (⟨mx, my, hp1, hlt, hnl, hpl, hnum, hsw⟩ : _ ∧ _ ∧ _ ∧ _ ∧ _ ∧ _ ∧ _ ∧ xw + yw = sw)
        have hq1 : q + 1 ≤ 1000000000000 := by
          have h1 := hox.1
          have h2 := hA.out.length
          have h3 : ((pairsP L).take t).length ≤ (pairsP L).length := List.length_take_le' _ _
          rw [pairs_length] at h3
          have := HNL.out
          omega
        have hbs := hbw.size
        have hA2 : ∀ k, blkOf A2 = some k → k < wr.heap.size := fun k hk => (ho.2.lt hk).2
        have HA2 := Lib.hid (⟨hA2, l5, l6, hbx⟩ : _ ∧ _ ∧ _ ∧ _)
        clear mx my hp1 hlt hnl hpl hnum mpx mpy hxn hyn hgw HP rx ry hA2 l5 l6
        go_upto_region 6 with fail
        go_region_held3 (fun w' => w'.cell? ⟨g5, 0, none⟩ = some (.int .i64 xw) ∧ w'.cell? ⟨g5, 1, none⟩ = some (.slice xA xn xc) ∧ w'.cell? ⟨g6, 0, none⟩ = some (.int .i64 yw) ∧ w'.cell? ⟨g6, 1, none⟩ = some (.slice yA yn yc))
          (first | exact P4 m5 m6 | exact P4 (k5.alloc _) (k6.alloc _) | exact P4 k5 k6 | exact P4 (h5.alloc _).drew (h6.alloc _).drew | exact P4 h5.drew h6.drew | exact P4 h5 h6)
          (first
            | (go_at_call 22; (refine HCC.out.mono ?_); rintro e w5 ⟨A5, n5, c5, rfl, ho5, hb5⟩
               have k5 := ((h5.alloc (.cells #[.slice xA xn xc, .slice yA yn yc] 22)).drew).keeps hb5
               have k6 := ((h6.alloc (.cells #[.slice xA xn xc, .slice yA yn yc] 22)).drew).keeps hb5
               have o5 := ((hox.alloc (.cells #[.slice xA xn xc, .slice yA yn yc] 22)).drew).keeps hb5
               have s5 : wc.heap.size + 1 ≤ w5.heap.size := by have := hb5.size; simpa [World.drew] using this)
            | (have _g := o5; (refine step_appP w.heap.size i0 rfl (.tmp 23) (.tmp 36) rfl Hi.out Hz0.out Hz1.out Hz2.out rfl (o5.alloc _) rfl (RdP.litg rfl sw A5 n5 c5 40) hq1 (by simp; omega) ?_); intro A6 d6 w6 hown6 hg6 hat6
               have m5 := (k5.alloc _).grown hg6 (fun e => by have := HA2.out.1 _ e.symm; have := HA2.out.2.1; omega)
               have m6 := (k6.alloc _).grown hg6 (fun e => by have := HA2.out.1 _ e.symm; have := HA2.out.2.2.1; omega)))
        obtain ⟨p2, hp2⟩ : ∃ p2, p + 2 = p2 := ⟨_, rfl⟩
        have hs2 : (p : Int) + 2 = (p2 : Int) := by omega
        have HP2 := Lib.hid hp2
        clear hp2
        go_wp2_with fail
        go_roundg (n - p2)
        case measure => have := hk.out; have := HP2.out; have := HX.out; omega
        case rel =>
          obtain ⟨mx, my, hp1, hlt, hnl, hpl, hnum, hsw⟩ := HX.out
          obtain ⟨hA2, l5, l6, hbx⟩ := HA2.out
          have c0 : Chg wr wc (fun k => blkOf A2 = some k) := Chg.of_below hbx
          have c2' := ((c0.alloc (.cells #[.slice xA xn xc, .slice yA yn yc] 22)).drew).trans (Chg.of_below (S := fun _ => False) hb5) (fun k hk => hk.elim)
          have c3 := (c2'.alloc (.cells #[.int .i64 sw, .slice A5 n5 c5] 40)).grown hg6 (fun k hk => .inl hk)
          have c5 : Chg w5 w6 (fun k => blkOf A2 = some k) := ((Chg.refl w5 _).alloc (.cells #[.int .i64 sw, .slice A5 n5 c5] 40)).grown hg6 (fun k hk => .inl hk)
          have hbelow : Below w.heap.size w w6 := hb.trans (c3.below (fun k hk => (ho.2.lt hk).1) hb.size)
          have hwx := hbx.size
          have h5lt : ∀ k, blkOf A5 = some k → wr.heap.size ≤ k ∧ k < w5.heap.size := fun k hk => by
            have h1 := (ho5.2.lt hk).1
            have h2 := (ho5.2.lt hk).2
            simp [World.drew] at h1
            omega
          refine ⟨t + 1, p2, q + 1, d6, A6, _, rfl, rfl, by have := HP2.out; have := hpt.out; show _ = _; omega, hown6, hbelow, ?_, by show n - p2 = _; have := HNL.out.1; omega, by have := HP2.out; omega⟩
          show All2 _ _ _
          rw [pairs_at L t (by have := hpt.out; omega), ← hpt.out, hp1]
          refine (hA.out.mono fun e _ pk hm => hm.chg c3 (fun k hk => .inl hk) (fun k hk hx => ?_)).app (All2.one ⟨?_, ?_, fun _ k hk hx => ?_⟩)
          · rcases hx with hx | hx
            · rcases hat6 with e1 | e1
              · left; rw [← e1]; exact hx
              · rw [e1] at hx; injection hx with hx; simp at hx; omega
            · exact .inr hx
          · show sw = _
            rw [← hsw, hnum.1, hnum.2]
          · exact (c5.rdI ho5.rd (Nat.le_refl _) (fun _ ad e1 hs => by
              have h9 := (h5lt ad.block (by rw [e1]; rfl)).1
              have h8 := hA2 _ hs
              omega)).more c5.size
          · have h9 := h5lt k hk
            have hbsz := hb.size
            rcases hx with hx | hx
            · rcases hat6 with e1 | e1
              · rw [e1] at hx; have h8 := hA2 _ hx; omega
              · rw [e1] at hx; injection hx with hx; simp at hx; omega
            · omega
    · have hltI : ¬ (p1 : Int) < (n : Int) := by omega
      have hfull : (pairsP L).take t = pairsP L := List.take_of_length_le (by rw [pairs_length]; have := hpt.out; have := HNL.out; omega)
      have hA' := hA.out
      rw [hfull] at hA'
      have hql : q = (pairsP L).length := by have h1 := ho.1; have h2 := hA'.length; omega
      have hq1 : 0 < q := by rw [hql, pairs_length]; have := HNL.out; omega
      have hcap := ho.2.capLe
      obtain ⟨g2, rfl⟩ := ho.2.addr (by omega)
      have hfin : Hid (PkPost w X (pairsP L) (.returned (.slice (some ⟨g2, 0, none⟩) q c2)) wr) :=
        ⟨g2, q, c2, rfl, hb, ⟨D2, ⟨ho.1, ho.2.rd⟩, hA'.mono fun e _ pk hm => hm.chg (S := fun _ => False) (Chg.refl _ _) (fun k hk => hk.elim) (fun k _ hk => .inr (HXX.out k hk))⟩, hcap, (ho.2.lt rfl).1, (ho.2.lt rfl).2⟩
      clear hlt hfull hA' hql hq1 hcap hnl hp1
      go_wp2_with fail
      go_ret
      exact hfin.out
end Go.Proofs.Ytbllgifmidnkhaa
