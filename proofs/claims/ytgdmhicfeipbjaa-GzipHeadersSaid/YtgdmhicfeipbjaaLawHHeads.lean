/-
  The walk of the statement GzipHeaders.
-/
import Derived.Test.YtgdmhicfeipbjaaHdW
import Derived.Test.YtgdmhicfeipbjaaOpenH
namespace Go.Proofs.Ytgdmhicfeipbjaa
open Go.RowKit
set_option linter.unusedVariables false

theorem post_back {h : HP} (hb : h.bd) (hk : h.ok = true) {M r : List Int} (hM : M = h.p4 ++ r) {W W' : World} {E : Ending} (hp : ParsePost W M E W') :
    ∃ X m cc, RdI .u8 W' W'.heap.size X m h.xl ∧ Below W.heap.size W W' ∧ E = .returned (.tuple #[hagg (h.v (.slice X m cc)), .int .i64 (h.p4.length : Int), .int .i64 0]) := by
  have hr := fun ex => read_back hb hk hM ex
  obtain ⟨X, m, cc, xl, hmc, _, hx, hbl, (⟨h0, rfl, rfl⟩ | ⟨h0, rfl⟩)⟩ := hp
  · refine ⟨X, m, cc, ?_, hbl, ?_⟩
    · rw [← (hr (.slice X m cc)).2.2.1]; exact hx
    · rw [(hr (.slice X m cc)).2.2.2, (hr (.slice X m cc)).2.1]
  · exact absurd (hr (.bool true)).1 h0
theorem post_cut {h : HP} (hb : h.bd) (hk : h.ok = true) {k : Nat} (hlt : k < h.p4.length) {W W' : World} {E : Ending} (hp : ParsePost W (h.p4.take k) E W') :
    Below W.heap.size W W' ∧ E = .returned (.tuple #[hagg hz, .int .i64 0, .int .i64 5]) := by
  have hr := cut_end hb hk hlt
  obtain ⟨X, m, cc, xl, hmc, _, hx, hbl, (⟨h0, _⟩ | ⟨h0, rfl⟩)⟩ := hp
  · rw [hr] at h0; cases h0
  · rw [hr]; exact ⟨hbl, rfl⟩
theorem p4_bd (h : HP) (hb : h.bd) : ∀ x ∈ h.p4, 0 ≤ x ∧ x < 256 := by
  unfold HP.p4
  refine app_bd (p3_bd h hb) ?_
  split
  · exact leB_bd _ _
  · exact nil_bd
theorem p4_len {h : HP} (hk : h.ok = true) : 10 ≤ h.p4.length ∧ h.p4.length ≤ 80000 := by
  have ho := ok_parts hk
  obtain ⟨t, ht⟩ := p4_p0 h
  refine ⟨by rw [ht, List.length_append, p0_len]; omega, ?_⟩
  have l1 : h.p1.length ≤ 12 + 65535 := by
    unfold HP.p1
    split <;> simp [p0_len, leB_length] <;> omega
  have l2 : h.p2.length ≤ h.p1.length + 4097 := by
    unfold HP.p2
    split <;> simp <;> omega
  have l3 : h.p3.length ≤ h.p2.length + 4097 := by
    unfold HP.p3
    split <;> simp <;> omega
  have l4 : h.p4.length ≤ h.p3.length + 2 := by
    unfold HP.p4
    split <;> simp [leB_length]
  omega

set_option maxRecDepth 100000 in
set_option maxHeartbeats 4000000 in
theorem headers_law (d : HdIn) (A : Option Addr) (n c : Nat) (l : List Int) (cut : Int) (w : World) (T0 : InH w d) (T1 : InC .u8 w A n c l) (hcut : (Lit.int .u16 cut).wf = true) :
    Calls Try.prog 3 #[d.v, .slice A n c, .int .u16 cut] w fun e w' => e = .returned (.bool true) ∧ Below w.heap.size w w' := by
  obtain ⟨⟨tx, sm, tm, fl, sy, xl, hE, nl, cl, hN, hC⟩, X, m, cc⟩ := d
  obtain ⟨⟨hx, hxm, _, hxc, hxcm⟩, hb, hnl, hcl⟩ := T0
  obtain ⟨R, m0, f0, lc0, cm0⟩ := T1
  dsimp only at hx hxm hnl hcl hxc hxcm
  unfold maxLen at hxm hnl hcl m0
  have hnI : (n : Int) ≤ 9223372036854775807 := by omega
  have hby : ∀ x ∈ l, 0 ≤ x ∧ x < 256 := fun x hx => bounds_u8 (f0 x hx)
  have hcb := bounds_u16 hcut
  clear f0 cm0 hcut hxc hxcm
  unfold HdIn.v hagg HP.v
  dsimp only
  have HSM := Lib.hid (fun W => small_any W ⟨tx, sm, tm, fl, sy, xl, hE, nl, cl, hN, hC⟩ X m cc hx.1 (by omega) (by dsimp only; omega) (by dsimp only; omega))
  have HX := Lib.hid hx.1
  have HD0 : Ar (w.alloc (.cells #[.bool tx, .bool sm, .int .u32 tm, .int .u8 fl, .int .u8 sy, .slice X m cc, .bool hE, .string (strOf nl), .string (strOf cl), .bool hN, .bool hC] 25)) w.heap.size 11 (hf (HP.v ⟨tx, sm, tm, fl, sy, xl, hE, nl, cl, hN, hC⟩ (.slice X m cc))) :=
    Ar.new' rfl _ _ rfl (fun i hi => by
      rcases lt11 hi with rfl | rfl | rfl | rfl | rfl | rfl | rfl | rfl | rfl | rfl | rfl
      all_goals rfl)
  have hb1 := (Below.refl w.heap.size w).alloc (Nat.le_refl _) (.cells #[.bool tx, .bool sm, .int .u32 tm, .int .u8 fl, .int .u8 sy, .slice X m cc, .bool hE, .string (strOf nl), .string (strOf cl), .bool hN, .bool hC] 25)
  go_enter Try.func3, Try.ntmps3
  go_wp2_with fail
  revert HD0 hb1
  generalize w.alloc (.cells #[.bool tx, .bool sm, .int .u32 tm, .int .u8 fl, .int .u8 sy, .slice X m cc, .bool hE, .string (strOf nl), .string (strOf cl), .bool hN, .bool hC] 25) = w1
  intro HD0 hb1
  obtain ⟨H, hH⟩ : ∃ H, w.heap.size = H := ⟨_, rfl⟩
  have HHH := Lib.hid hH
  have hxH : RdI .u8 w H X m xl := by rw [← hH]; exact hx
  have hRH : RdI .u8 w H A n l := by rw [← hH]; exact R
  rw [hH] at HD0 hb1 ⊢
  clear hH hx R
  go_wp2_with fail
  refine (HSM.out _).mono ?_
  rintro e w2 ⟨rfl, hb2⟩
  have hb3 := hb1.trans (hb2.mono (by have := HD0.lt; omega))
  have HD1 := HD0.keeps hb2
  clear hb1 hb2 HD0 HSM
  cases hsm : smB ⟨tx, sm, tm, fl, sy, xl, hE, nl, cl, hN, hC⟩ with
  | false =>
    go_wp2_with fail
    refine (answers13_any _).mono ?_
    rintro e w3 ⟨rfl, hb4⟩
    go_wp2
    go_ret
    exact ⟨rfl, HHH.out ▸ hb3.trans (hb4.mono (by have := HD1.lt; omega))⟩
  | true =>
    by_cases hn1 : (1000 : Int) < n
    · go_wp2_with fail
      refine (answers13_any _).mono ?_
      rintro e w3 ⟨rfl, hb4⟩
      go_wp2
      go_ret
      exact ⟨rfl, HHH.out ▸ hb3.trans (hb4.mono (by have := HD1.lt; omega))⟩
    have hsmall : m ≤ 70000 ∧ nl.length ≤ 5000 ∧ cl.length ≤ 5000 := by
      unfold smB at hsm
      simp only [Bool.and_eq_true, decide_eq_true_eq] at hsm
      have := HX.out
      omega
    clear hsm
    have HPR := Lib.hid (print_any w2 H ⟨tx, sm, tm, fl, sy, xl, hE, nl, cl, hN, hC⟩ X m cc (hxH.below hb3) (by have := HD1.lt; omega) hb (by omega) (by dsimp only; omega) (by dsimp only; omega))
    have HGD := Lib.hid (fun W => lgood_any W ⟨tx, sm, tm, fl, sy, xl, hE, nl, cl, hN, hC⟩ X m cc HX.out hb (by omega) (by dsimp only; omega) (by dsimp only; omega))
    unfold hagg HP.v at HPR HGD
    dsimp only at HPR HGD
    have k0 : w2.cell? ⟨H, 0, none⟩ = some (.bool tx) := HD1.cell (i := 0) (by omega)
    have k1 : w2.cell? ⟨H, 1, none⟩ = some (.bool sm) := HD1.cell (i := 1) (by omega)
    have k2 : w2.cell? ⟨H, 2, none⟩ = some (.int .u32 tm) := HD1.cell (i := 2) (by omega)
    have k3 : w2.cell? ⟨H, 3, none⟩ = some (.int .u8 fl) := HD1.cell (i := 3) (by omega)
    have k4 : w2.cell? ⟨H, 4, none⟩ = some (.int .u8 sy) := HD1.cell (i := 4) (by omega)
    have k5 : w2.cell? ⟨H, 5, none⟩ = some (.slice X m cc) := HD1.cell (i := 5) (by omega)
    have k6 : w2.cell? ⟨H, 6, none⟩ = some (.bool hE) := HD1.cell (i := 6) (by omega)
    have k7 : w2.cell? ⟨H, 7, none⟩ = some (.string (strOf nl)) := HD1.cell (i := 7) (by omega)
    have k8 : w2.cell? ⟨H, 8, none⟩ = some (.string (strOf cl)) := HD1.cell (i := 8) (by omega)
    have k9 : w2.cell? ⟨H, 9, none⟩ = some (.bool hN) := HD1.cell (i := 9) (by omega)
    have k10 : w2.cell? ⟨H, 10, none⟩ = some (.bool hC) := HD1.cell (i := 10) (by omega)
    go_wp2_with fail
    refine HPR.out.mono ?_
    clear HPR
    rintro e w3 (⟨hok, A1, n1, c1, rfl, ho1, hb4⟩ | ⟨hok, rfl, hb4⟩)
    · have HD2 := HD1.keeps hb4
      have hb5 := hb3.trans (hb4.mono (by have := HD1.lt; omega))
      clear k0 k1 k2 k3 k4 k5 k6 k7 k8 k9 k10
      go_wp2_with fail
      refine (answers13_any _).mono ?_
      rintro e w4 ⟨rfl, hb6⟩
      have HD3 := HD2.keeps hb6
      have hb7 := hb5.trans (hb6.mono (by have := HD2.lt; omega))
      have ho2 := ho1.keeps hb6
      have k0 : w4.cell? ⟨H, 0, none⟩ = some (.bool tx) := HD3.cell (i := 0) (by omega)
      have k1 : w4.cell? ⟨H, 1, none⟩ = some (.bool sm) := HD3.cell (i := 1) (by omega)
      have k2 : w4.cell? ⟨H, 2, none⟩ = some (.int .u32 tm) := HD3.cell (i := 2) (by omega)
      have k3 : w4.cell? ⟨H, 3, none⟩ = some (.int .u8 fl) := HD3.cell (i := 3) (by omega)
      have k4 : w4.cell? ⟨H, 4, none⟩ = some (.int .u8 sy) := HD3.cell (i := 4) (by omega)
      have k5 : w4.cell? ⟨H, 5, none⟩ = some (.slice X m cc) := HD3.cell (i := 5) (by omega)
      have k6 : w4.cell? ⟨H, 6, none⟩ = some (.bool hE) := HD3.cell (i := 6) (by omega)
      have k7 : w4.cell? ⟨H, 7, none⟩ = some (.string (strOf nl)) := HD3.cell (i := 7) (by omega)
      have k8 : w4.cell? ⟨H, 8, none⟩ = some (.string (strOf cl)) := HD3.cell (i := 8) (by omega)
      have k9 : w4.cell? ⟨H, 9, none⟩ = some (.bool hN) := HD3.cell (i := 9) (by omega)
      have k10 : w4.cell? ⟨H, 10, none⟩ = some (.bool hC) := HD3.cell (i := 10) (by omega)
      go_wp2_with fail
      refine (HGD.out _).mono ?_
      rintro e w5 ⟨rfl, hb8⟩
      rw [hok]
      clear k0 k1 k2 k3 k4 k5 k6 k7 k8 k9 k10
      have HD4 := HD3.keeps hb8
      have hb9 := hb7.trans (hb8.mono (by have := HD3.lt; omega))
      have ho3 := ho2.keeps hb8
      have hH5 := HD4.lt
      clear ho1 ho2 HD1 HD2 HD3 hb3 hb4 hb5 hb6 hb7 hb8
      obtain ⟨p, hp⟩ : ∃ p, HP.p4 ⟨tx, sm, tm, fl, sy, xl, hE, nl, cl, hN, hC⟩ = p := ⟨_, rfl⟩
      have hpl := p4_len hok
      have hpb : ∀ x ∈ p, 0 ≤ x ∧ x < 256 := by rw [← hp]; exact p4_bd _ hb
      have HBK := Lib.hid (fun (M : List Int) (W W' : World) (E : Ending) (hM : M = p ++ l) (h9 : ParsePost W M E W') => post_back hb hok (r := l) (by rw [hM, hp]) h9)
      have HCT := Lib.hid (fun (k : Nat) (hk : k < p.length) (W W' : World) (E : Ending) (h9 : ParsePost W (p.take k) E W') => post_cut hb hok (k := k) (by rw [hp]; exact hk) (by rw [hp]; exact h9))
      rw [hp] at ho3 hpl
      have hn1p := ho3.1
      have HN1 := Lib.hid hn1p
      rw [← hn1p] at hpl
      simp only [hp, ← hn1p] at HBK HCT
      unfold hagg HP.v at HBK
      dsimp only at HBK
      clear hp hn1p hok
      obtain ⟨i0, hi, hz0, hz1, hz2⟩ := info_parts rbyte_info
      have Hi := Lib.hid hi
      have Hz0 := Lib.hid hz0
      have Hz1 := Lib.hid hz1
      have Hz2 := Lib.hid hz2
      clear hi hz0 hz1 hz2
      obtain ⟨w6, hw6⟩ : ∃ W, w5 = W := ⟨_, rfl⟩
      subst hw6
      have hra := ho3.rd.alloc (Nat.le_refl _) (.cells #[] 5)
      go_wp2_with (first
        | (at_builtin; (refine wpList_app .u8 w5.heap.size 5 i0 1 rfl (.tmp 56) (.tmp 57) _ rfl Try.underlying23 Hi.out Hz0.out Hz1.out Hz2.out rfl (OwnI.lit rfl [] _ (Nat.le_refl _) (by simp)) rfl hra (by simp; omega) (by omega) (by simp) ?_)
           intro A2 d2 w6 ho4 hg4 hat4
           simp only [List.nil_append, Nat.zero_add] at ho4
           have hb10 : Below w5.heap.size w5 w6 := ((Below.refl _ w5).alloc (Nat.le_refl _) _).grown hg4 (by simp) (by simp [blkOf])
           have hs6 := hb10.size
           have hR6 : RdI .u8 w6 H A n l := hRH.below (hb9.trans (hb10.mono (by omega))))
        | (at_builtin; have _g := hs6; (refine wpList_app .u8 w5.heap.size 5 i0 1 rfl (.tmp 58) (.tmp 59) _ rfl Try.underlying23 Hi.out Hz0.out Hz1.out Hz2.out rfl ho4 rfl hR6 (by omega) (by omega) hs6 ?_)
           intro A3 d3 w7 ho5 hg5 hat5))
      have hb11 : Below w5.heap.size w5 w7 := below_grown hb10 hg5 hs6 (fun g hg => (ho4.2.lt hg).1)
      have hd3 : n1 + n ≤ d3 := by
        rcases ho5.2 with ⟨_, h1, h2⟩ | ⟨_, _, _, _, _, h1, _⟩
        · omega
        · exact h1
      refine (parse_any w7 w7.heap.size (n1 + n) d3 A3 (p ++ l) ho5.rd (Nat.le_refl _) (by omega) hd3 (app_bd hpb hby)).mono ?_
      intro e w8 h9
      obtain ⟨X1, m1, cc1, hx1, hb12, rfl⟩ := HBK.out _ _ _ _ rfl h9
      clear h9
      have hb13 := hb11.trans (hb12.mono hb11.size)
      have HD5 := HD4.keeps hb13
      have ho6 := ho3.keeps hb13
      have hb14 := hb9.trans (hb13.mono (by omega))
      have hm1 := hx1.1
      clear ho4 hg4 hat4 hb10 hR6 hs6 ho5 hg5 hat5 hb11 hb12 hd3 hra
      have HM1 := Lib.hid hm1
      clear hm1
      go_upto_region 9 with fail
      have Q1 : Ar (w8.alloc (.cells #[.bool tx, .bool sm, .int .u32 tm, .int .u8 fl, .int .u8 sy, .slice X1 m1 cc1, .bool hE, .string (strOf nl), .string (strOf cl), .bool hN, .bool hC] 25)) w8.heap.size 11 (hf ⟨tx, sm, tm, fl, sy, .slice X1 m1 cc1, hE, strOf nl, strOf cl, hN, hC⟩) :=
        Ar.new' rfl _ _ rfl (fun i hi => by
          rcases lt11 hi with rfl | rfl | rfl | rfl | rfl | rfl | rfl | rfl | rfl | rfl | rfl
          all_goals rfl)
      have hbq : Below w8.heap.size w8 (w8.alloc (.cells #[.bool tx, .bool sm, .int .u32 tm, .int .u8 fl, .int .u8 sy, .slice X1 m1 cc1, .bool hE, .string (strOf nl), .string (strOf cl), .bool hN, .bool hC] 25)) := (Below.refl _ _).alloc (Nat.le_refl _) _
      revert Q1 hbq
      generalize w8.alloc (.cells #[.bool tx, .bool sm, .int .u32 tm, .int .u8 fl, .int .u8 sy, .slice X1 m1 cc1, .bool hE, .string (strOf nl), .string (strOf cl), .bool hN, .bool hC] 25) = w9
      intro Q1 hbq
      have HD6 := HD5.keeps hbq
      have ho7 := ho6.keeps hbq
      have hy1 := hx1.below hbq
      have hb15 := hb14.trans (hbq.mono (by have := HD5.lt; omega))
      obtain ⟨Z1, hZ1⟩ : ∃ Z, w8.heap.size = Z := ⟨_, rfl⟩
      have hHZ : H < Z1 := by rw [← hZ1]; exact HD5.lt
      rw [hZ1] at Q1 hy1 ⊢
      have hZw := Q1.lt
      clear hZ1 hbq HD5 ho6 hx1 hb13 hb14 HD4 ho3 hb9
      have hra := ho7.rd.alloc (Nat.le_refl _) (.cells #[] 5)
      go_wp2_with (first
        | (at_builtin; (refine wpList_app .u8 w9.heap.size 5 i0 1 rfl (.tmp 66) (.tmp 67) _ rfl Try.underlying23 Hi.out Hz0.out Hz1.out Hz2.out rfl (OwnI.lit rfl [] _ (Nat.le_refl _) (by simp)) rfl hra (by simp; omega) (by omega) (by simp) ?_)
           intro A2 d2 w10 ho4 hg4 hat4
           simp only [List.nil_append, Nat.zero_add] at ho4
           have hb10 : Below w9.heap.size w9 w10 := ((Below.refl _ w9).alloc (Nat.le_refl _) _).grown hg4 (by simp) (by simp [blkOf])
           have hs6 := hb10.size
           have hR6 : RdI .u8 w10 H A n l := hRH.below (hb15.trans (hb10.mono (by omega))))
        | (at_builtin; have _g := hs6; (refine wpList_app .u8 w9.heap.size 5 i0 1 rfl (.tmp 68) (.tmp 69) _ rfl Try.underlying23 Hi.out Hz0.out Hz1.out Hz2.out rfl ho4 rfl hR6 (by omega) (by omega) hs6 ?_)
           intro A3 d3 w11 ho5 hg5 hat5))
      have hb11 : Below w9.heap.size w9 w11 := below_grown hb10 hg5 hs6 (fun g hg => (ho4.2.lt hg).1)
      have hd3 : n1 + n ≤ d3 := by
        rcases ho5.2 with ⟨_, h1, h2⟩ | ⟨_, _, _, _, _, h1, _⟩
        · omega
        · exact h1
      refine (rheader_any w11 w11.heap.size (n1 + n) d3 A3 (p ++ l) ho5.rd (Nat.le_refl _) (by omega) hd3 (app_bd hpb hby)).mono ?_
      intro e w12 h9
      obtain ⟨X2, m2, cc2, hx2, hb12, rfl⟩ := HBK.out _ _ _ _ rfl h9
      clear h9
      have hb13 := hb11.trans (hb12.mono hb11.size)
      have HD7 := HD6.keeps hb13
      have Q2 := Q1.keeps hb13
      have ho8 := ho7.keeps hb13
      have hy2 := hy1.below (hb13.mono (by omega))
      have hb14 := hb15.trans (hb13.mono (by omega))
      have hm2 := hx2.1
      have HM2 := Lib.hid hm2
      clear hm2 ho4 hg4 hat4 hb10 hR6 hs6 ho5 hg5 hat5 hb11 hb12 hd3 hra HD6 Q1 ho7 hy1 hb15
      have hZw2 := Q2.lt
      go_upto_region 10 with fail
      have Q3 : Ar (w12.alloc (.cells #[.bool tx, .bool sm, .int .u32 tm, .int .u8 fl, .int .u8 sy, .slice X2 m2 cc2, .bool hE, .string (strOf nl), .string (strOf cl), .bool hN, .bool hC] 25)) w12.heap.size 11 (hf ⟨tx, sm, tm, fl, sy, .slice X2 m2 cc2, hE, strOf nl, strOf cl, hN, hC⟩) :=
        Ar.new' rfl _ _ rfl (fun i hi => by
          rcases lt11 hi with rfl | rfl | rfl | rfl | rfl | rfl | rfl | rfl | rfl | rfl | rfl
          all_goals rfl)
      have hbq : Below w12.heap.size w12 (w12.alloc (.cells #[.bool tx, .bool sm, .int .u32 tm, .int .u8 fl, .int .u8 sy, .slice X2 m2 cc2, .bool hE, .string (strOf nl), .string (strOf cl), .bool hN, .bool hC] 25)) := (Below.refl _ _).alloc (Nat.le_refl _) _
      revert Q3 hbq
      generalize w12.alloc (.cells #[.bool tx, .bool sm, .int .u32 tm, .int .u8 fl, .int .u8 sy, .slice X2 m2 cc2, .bool hE, .string (strOf nl), .string (strOf cl), .bool hN, .bool hC] 25) = w13
      intro Q3 hbq
      have HD8 := HD7.keeps hbq
      have Q4 := Q2.keeps hbq
      have ho9 := ho8.keeps hbq
      have hy3 := hy2.below (hbq.mono (by omega))
      have hy4 := hx2.below hbq
      have hb15 := hb14.trans (hbq.mono (by have := HD7.lt; omega))
      obtain ⟨Z2, hZ2⟩ : ∃ Z, w12.heap.size = Z := ⟨_, rfl⟩
      rw [hZ2] at Q3 hy4 ⊢
      clear hZ2 hbq HD7 Q2 ho8 hy2 hx2 hb13 hb14 hZw2
      have hHw := HD8.lt
      have hq3 := Q3.lt
      have hq4 := Q4.lt
      have hs1 := sameh_any w13 w13.heap.size m1 cc1 m cc X1 X xl ⟨tx, sm, tm, fl, sy, .slice X m cc, hE, strOf nl, strOf cl, hN, hC⟩ (hy3.more (by omega)) ((hxH.below hb15).more (by omega)) (Nat.le_refl _) (by have := HM1.out; have := HX.out; omega)
      unfold hagg at hs1
      dsimp only at hs1
      have HS1 := Lib.hid hs1
      clear hs1
      have k0 : w13.cell? ⟨H, 0, none⟩ = some (.bool tx) := HD8.cell (i := 0) (by omega)
      have k1 : w13.cell? ⟨H, 1, none⟩ = some (.bool sm) := HD8.cell (i := 1) (by omega)
      have k2 : w13.cell? ⟨H, 2, none⟩ = some (.int .u32 tm) := HD8.cell (i := 2) (by omega)
      have k3 : w13.cell? ⟨H, 3, none⟩ = some (.int .u8 fl) := HD8.cell (i := 3) (by omega)
      have k4 : w13.cell? ⟨H, 4, none⟩ = some (.int .u8 sy) := HD8.cell (i := 4) (by omega)
      have k5 : w13.cell? ⟨H, 5, none⟩ = some (.slice X m cc) := HD8.cell (i := 5) (by omega)
      have k6 : w13.cell? ⟨H, 6, none⟩ = some (.bool hE) := HD8.cell (i := 6) (by omega)
      have k7 : w13.cell? ⟨H, 7, none⟩ = some (.string (strOf nl)) := HD8.cell (i := 7) (by omega)
      have k8 : w13.cell? ⟨H, 8, none⟩ = some (.string (strOf cl)) := HD8.cell (i := 8) (by omega)
      have k9 : w13.cell? ⟨H, 9, none⟩ = some (.bool hN) := HD8.cell (i := 9) (by omega)
      have k10 : w13.cell? ⟨H, 10, none⟩ = some (.bool hC) := HD8.cell (i := 10) (by omega)
      have s0 : w13.cell? ⟨Z1, 0, none⟩ = some (.bool tx) := Q4.cell (i := 0) (by omega)
      have s1 : w13.cell? ⟨Z1, 1, none⟩ = some (.bool sm) := Q4.cell (i := 1) (by omega)
      have s2 : w13.cell? ⟨Z1, 2, none⟩ = some (.int .u32 tm) := Q4.cell (i := 2) (by omega)
      have s3 : w13.cell? ⟨Z1, 3, none⟩ = some (.int .u8 fl) := Q4.cell (i := 3) (by omega)
      have s4 : w13.cell? ⟨Z1, 4, none⟩ = some (.int .u8 sy) := Q4.cell (i := 4) (by omega)
      have s5 : w13.cell? ⟨Z1, 5, none⟩ = some (.slice X1 m1 cc1) := Q4.cell (i := 5) (by omega)
      have s6 : w13.cell? ⟨Z1, 6, none⟩ = some (.bool hE) := Q4.cell (i := 6) (by omega)
      have s7 : w13.cell? ⟨Z1, 7, none⟩ = some (.string (strOf nl)) := Q4.cell (i := 7) (by omega)
      have s8 : w13.cell? ⟨Z1, 8, none⟩ = some (.string (strOf cl)) := Q4.cell (i := 8) (by omega)
      have s9 : w13.cell? ⟨Z1, 9, none⟩ = some (.bool hN) := Q4.cell (i := 9) (by omega)
      have s10 : w13.cell? ⟨Z1, 10, none⟩ = some (.bool hC) := Q4.cell (i := 10) (by omega)
      go_wp2_with fail
      refine HS1.out.mono ?_
      rintro e w14 ⟨rfl, hb16⟩
      clear HS1 k0 k1 k2 k3 k4 k5 k6 k7 k8 k9 k10 s0 s1 s2 s3 s4 s5 s6 s7 s8 s9 s10
      have HD9 := HD8.keeps hb16
      have Q5 := Q3.keeps hb16
      have ho10 := ho9.keeps hb16
      have hy5 := hy4.below (hb16.mono (by omega))
      have hb17 := hb15.trans (hb16.mono (by omega))
      have hw14 := hb16.size
      have hs1 := sameh_any w14 w14.heap.size m2 cc2 m cc X2 X xl ⟨tx, sm, tm, fl, sy, .slice X m cc, hE, strOf nl, strOf cl, hN, hC⟩ (hy5.more (by omega)) ((hxH.below hb17).more (by omega)) (Nat.le_refl _) (by have := HM2.out; have := HX.out; omega)
      unfold hagg at hs1
      dsimp only at hs1
      have HS1 := Lib.hid hs1
      clear hs1
      have k0 : w14.cell? ⟨H, 0, none⟩ = some (.bool tx) := HD9.cell (i := 0) (by omega)
      have k1 : w14.cell? ⟨H, 1, none⟩ = some (.bool sm) := HD9.cell (i := 1) (by omega)
      have k2 : w14.cell? ⟨H, 2, none⟩ = some (.int .u32 tm) := HD9.cell (i := 2) (by omega)
      have k3 : w14.cell? ⟨H, 3, none⟩ = some (.int .u8 fl) := HD9.cell (i := 3) (by omega)
      have k4 : w14.cell? ⟨H, 4, none⟩ = some (.int .u8 sy) := HD9.cell (i := 4) (by omega)
      have k5 : w14.cell? ⟨H, 5, none⟩ = some (.slice X m cc) := HD9.cell (i := 5) (by omega)
      have k6 : w14.cell? ⟨H, 6, none⟩ = some (.bool hE) := HD9.cell (i := 6) (by omega)
      have k7 : w14.cell? ⟨H, 7, none⟩ = some (.string (strOf nl)) := HD9.cell (i := 7) (by omega)
      have k8 : w14.cell? ⟨H, 8, none⟩ = some (.string (strOf cl)) := HD9.cell (i := 8) (by omega)
      have k9 : w14.cell? ⟨H, 9, none⟩ = some (.bool hN) := HD9.cell (i := 9) (by omega)
      have k10 : w14.cell? ⟨H, 10, none⟩ = some (.bool hC) := HD9.cell (i := 10) (by omega)
      have s0 : w14.cell? ⟨Z2, 0, none⟩ = some (.bool tx) := Q5.cell (i := 0) (by omega)
      have s1 : w14.cell? ⟨Z2, 1, none⟩ = some (.bool sm) := Q5.cell (i := 1) (by omega)
      have s2 : w14.cell? ⟨Z2, 2, none⟩ = some (.int .u32 tm) := Q5.cell (i := 2) (by omega)
      have s3 : w14.cell? ⟨Z2, 3, none⟩ = some (.int .u8 fl) := Q5.cell (i := 3) (by omega)
      have s4 : w14.cell? ⟨Z2, 4, none⟩ = some (.int .u8 sy) := Q5.cell (i := 4) (by omega)
      have s5 : w14.cell? ⟨Z2, 5, none⟩ = some (.slice X2 m2 cc2) := Q5.cell (i := 5) (by omega)
      have s6 : w14.cell? ⟨Z2, 6, none⟩ = some (.bool hE) := Q5.cell (i := 6) (by omega)
      have s7 : w14.cell? ⟨Z2, 7, none⟩ = some (.string (strOf nl)) := Q5.cell (i := 7) (by omega)
      have s8 : w14.cell? ⟨Z2, 8, none⟩ = some (.string (strOf cl)) := Q5.cell (i := 8) (by omega)
      have s9 : w14.cell? ⟨Z2, 9, none⟩ = some (.bool hN) := Q5.cell (i := 9) (by omega)
      have s10 : w14.cell? ⟨Z2, 10, none⟩ = some (.bool hC) := Q5.cell (i := 10) (by omega)
      go_wp2_with fail
      refine HS1.out.mono ?_
      rintro e w15 ⟨rfl, hb18⟩
      clear HS1 k0 k1 k2 k3 k4 k5 k6 k7 k8 k9 k10 s0 s1 s2 s3 s4 s5 s6 s7 s8 s9 s10
      have ho11 := ho10.keeps hb18
      have hb19 := hb17.trans (hb18.mono (by omega))
      have hw15 := hb18.size
      obtain ⟨K, hK⟩ := Int.eq_ofNat_of_zero_le (show 0 ≤ cut % n1 from Int.emod_nonneg _ (by omega))
      have hKlt : K < n1 := by have := Int.emod_lt_of_pos cut (show (0 : Int) < n1 by omega); omega
      have hKt : cut.tmod (n1 : Int) = (K : Int) := by rw [Int.tmod_eq_emod_of_nonneg hcb.1, hK]
      have hKI : (0 : Int) ≤ K ∧ (K : Int) < n1 := by omega
      have hn1z : ((n1 : Int) == 0) = false := by simp; omega
      have hc1 : n1 ≤ c1 := by
        rcases ho11.2 with ⟨_, h1, h2⟩ | ⟨_, _, _, _, _, h1, _⟩
        · omega
        · exact h1
      clear hK
      have hsl := run_slice_to (P := Try.prog) 23 5 Try.underlying23 Hi.out Hz1.out A1 n1 c1 (j := K) (by omega)
      go_wp2_with fail
      refine (parse_any w15 w15.heap.size K c1 A1 (p.take K) (RdI.pre ho11.rd (by omega)) (Nat.le_refl _) (by omega) (by omega) (take_bd hpb K)).mono ?_
      intro e w16 h9
      obtain ⟨hb20, rfl⟩ := HCT.out K hKlt _ _ _ h9
      clear h9
      unfold hagg hz
      go_wp2
      go_ret
      exact ⟨rfl, HHH.out ▸ (hb19.trans (hb20.mono (by omega))).alloc (by have := hb20.size; omega) _⟩
    · have HD2 := HD1.keeps hb4
      have hb5 := hb3.trans (hb4.mono (by have := HD1.lt; omega))
      clear k0 k1 k2 k3 k4 k5 k6 k7 k8 k9 k10
      go_wp2_with fail
      refine (answers13_any _).mono ?_
      rintro e w4 ⟨rfl, hb6⟩
      have HD3 := HD2.keeps hb6
      have hb7 := hb5.trans (hb6.mono (by have := HD2.lt; omega))
      have k0 : w4.cell? ⟨H, 0, none⟩ = some (.bool tx) := HD3.cell (i := 0) (by omega)
      have k1 : w4.cell? ⟨H, 1, none⟩ = some (.bool sm) := HD3.cell (i := 1) (by omega)
      have k2 : w4.cell? ⟨H, 2, none⟩ = some (.int .u32 tm) := HD3.cell (i := 2) (by omega)
      have k3 : w4.cell? ⟨H, 3, none⟩ = some (.int .u8 fl) := HD3.cell (i := 3) (by omega)
      have k4 : w4.cell? ⟨H, 4, none⟩ = some (.int .u8 sy) := HD3.cell (i := 4) (by omega)
      have k5 : w4.cell? ⟨H, 5, none⟩ = some (.slice X m cc) := HD3.cell (i := 5) (by omega)
      have k6 : w4.cell? ⟨H, 6, none⟩ = some (.bool hE) := HD3.cell (i := 6) (by omega)
      have k7 : w4.cell? ⟨H, 7, none⟩ = some (.string (strOf nl)) := HD3.cell (i := 7) (by omega)
      have k8 : w4.cell? ⟨H, 8, none⟩ = some (.string (strOf cl)) := HD3.cell (i := 8) (by omega)
      have k9 : w4.cell? ⟨H, 9, none⟩ = some (.bool hN) := HD3.cell (i := 9) (by omega)
      have k10 : w4.cell? ⟨H, 10, none⟩ = some (.bool hC) := HD3.cell (i := 10) (by omega)
      go_wp2_with fail
      refine (HGD.out _).mono ?_
      rintro e w5 ⟨rfl, hb8⟩
      rw [hok]
      go_wp2
      go_ret
      exact ⟨rfl, HHH.out ▸ hb7.trans (hb8.mono (by have := HD3.lt; omega))⟩
end Go.Proofs.Ytgdmhicfeipbjaa
