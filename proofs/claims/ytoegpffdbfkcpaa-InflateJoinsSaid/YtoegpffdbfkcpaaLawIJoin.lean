/-
  The walk of the statement InflateJoins.
-/
import Derived.Test.YtoegpffdbfkcpaaAns12
import Derived.Test.YtoegpffdbfkcpaaOpenC
import Derived.Test.YtoegpffdbfkcpaaIJoinW
namespace Go.Proofs.Ytoegpffdbfkcpaa
open Go.RowKit
set_option linter.unusedVariables false
/-- a list in the making -/
def LR (w : World) (A : Option Addr) (k c : Nat) (L : List Int) (wx : World) : Prop := OwnI .u8 wx w.heap.size 5 A k c L ∧ Below w.heap.size w wx
theorem LR.call {w w1 w2 : World} {A : Option Addr} {k c : Nat} {L X : List Int} {e : Ending} (h : LR w A k c L w1) (hp : MkPost w1 X e w2) :
    ∃ A1 n1 c1, e = .returned (.slice A1 n1 c1) ∧ LR w A k c L w2 ∧ RdI .u8 w2 w2.heap.size A1 n1 X := by
  obtain ⟨A1, n1, c1, rfl, ho, hb⟩ := hp
  exact ⟨A1, n1, c1, rfl, ⟨h.1.keeps hb, h.2.trans (hb.mono h.2.size)⟩, ho.rd⟩
theorem LR.app {w w2 w4 : World} {A A4 : Option Addr} {k k4 c c4 : Nat} {L X : List Int} (h : LR w A k c L w2) (ho : OwnI .u8 w4 w.heap.size 5 A4 k4 c4 X) (hg : w2.grownBy w4 (blkOf A)) : LR w A4 k4 c4 X w4 :=
  ⟨ho, h.2.grown hg h.2.size fun q hq => (h.1.2.lt hq).1⟩
theorem LR.alloc {w w2 : World} {A : Option Addr} {k c : Nat} {L : List Int} (h : LR w A k c L w2) (o : Obj) : LR w A k c L (w2.alloc o) := ⟨h.1.alloc o, h.2.alloc h.2.size o⟩
theorem LR.new {w w1 w2 : World} {A : Option Addr} {k c : Nat} {L X : List Int} {e : Ending} (h : LR w A k c L w1) (hp : MkPost w1 X e w2) : ∃ A1 n1 c1, e = .returned (.slice A1 n1 c1) ∧ LR w A1 n1 c1 X w2 := by
  obtain ⟨A1, n1, c1, rfl, ho, hb⟩ := hp
  exact ⟨A1, n1, c1, rfl, ho.more h.2.size, h.2.trans (hb.mono h.2.size)⟩
def WantR (wq : World) (a : List Int) (D K : Nat) (g : Nat) (v12 v13 : Value) (wr : World) : Prop :=
  ∃ j A q d, j + g = K ∧ v13 = .int .i64 (j : Nat) ∧ v12 = .slice A q d ∧ OwnI .u8 wr wq.heap.size 5 A q d (a ++ again a D j) ∧ Below wq.heap.size wq wr
set_option maxRecDepth 100000 in
set_option maxHeartbeats 4000000 in
theorem ijoin_law (A : Option Addr) (n c : Nat) (a : List Int) (C : Option Addr) (m d : Nat) (b : List Int) (Ds Ns : Int) (w : World) (Ta : InC .u8 w A n c a) (Tb : InC .u8 w C m d b) (hDs : (Lit.int .u8 Ds).wf = true) (hNs : (Lit.int .u8 Ns).wf = true) :
    Calls Try.prog 6 #[.slice A n c, .slice C m d, .int .u8 Ds, .int .u8 Ns] w fun e w' => e = .returned (.bool true) ∧ Below w.heap.size w w' := by
  obtain ⟨hra, hmxa, hwfa, hcapa, hcma⟩ := Ta
  obtain ⟨hrb, hmxb, hwfb, hcapb, hcmb⟩ := Tb
  obtain ⟨i0, hi, hz0, hz1, hz2⟩ := info_parts fbyte_info
  have hD' : 0 ≤ Ds ∧ Ds < 256 := bounds_u8 hDs
  have hN' : 0 ≤ Ns ∧ Ns < 256 := bounds_u8 hNs
  have hbya : ∀ x ∈ a, 0 ≤ x ∧ x < 256 := fun x hx => bounds_u8 (hwfa x hx)
  have hbyb : ∀ x ∈ b, 0 ≤ x ∧ x < 256 := fun x hx => bounds_u8 (hwfb x hx)
  have hna := hra.1
  have hnb := hrb.1
  have HBA := Lib.hid hbya
  have HBB := Lib.hid hbyb
  have HNA := Lib.hid hna
  have HNB := Lib.hid hnb
  clear hDs hNs hwfa hwfb hbya hbyb hna hnb hmxa hmxb
  by_cases hbig : 400 < n ∨ 400 < m ∨ n = 0
  · have HA := Lib.hid (answers12_any w)
    have hc : (400 : Int) < n ∨ (¬ (400 : Int) < n ∧ (400 : Int) < m) ∨ (¬ (400 : Int) < n ∧ ¬ (400 : Int) < m ∧ (n : Int) = 0) := by omega
    clear hra hrb HBA HBB HNA HNB hi hz0 hz1 hz2 hcapa hcma hcapb hcmb hbig
    rcases hc with hc | ⟨hc1, hc⟩ | ⟨hc1, hc2, hc⟩
    all_goals
      go_enter Try.func6, Try.ntmps6
      go_wp2_with fail
      refine HA.out.mono ?_
      rintro e wa ⟨rfl, hba⟩
      go_wp2_with fail
      go_ret
      exact ⟨rfl, hba⟩
  · have hn1 : ¬ (400 : Int) < n := by omega
    have hm1 : ¬ (400 : Int) < m := by omega
    have hn2 : ¬ (n : Int) = 0 := by omega
    have Hi := Lib.hid hi
    have Hz0 := Lib.hid hz0
    have Hz1 := Lib.hid hz1
    have Hz2 := Lib.hid hz2
    obtain ⟨D, hD⟩ : ∃ D : Nat, Ds % (n : Int) + 1 = (D : Int) := ⟨(Ds % (n : Int)).toNat + 1, by
      have := Int.emod_nonneg Ds (b := (n : Int)) (by omega)
      omega⟩
    have hDn : 1 ≤ D ∧ D ≤ n := by
      have h1 := Int.emod_nonneg Ds (b := (n : Int)) (by omega)
      have h2 := Int.emod_lt_of_pos Ds (b := (n : Int)) (by omega)
      omega
    obtain ⟨K, hK⟩ : ∃ K : Nat, (K : Int) = min (Ns + 3) 258 := ⟨(min (Ns + 3) 258).toNat, by omega⟩
    have hK3 : 3 ≤ K ∧ K ≤ 258 := by omega
    have h65a : (0 : Int) ≤ 65535 - (n : Int) ∧ 65535 - (n : Int) < 65536 := by omega
    have h65b : (0 : Int) ≤ 65535 - (m : Int) ∧ 65535 - (m : Int) < 65536 := by omega
    have HO1 := Lib.hid (fun W => of_any W (n : Int) 16 (by omega) (by decide))
    have HO2 := Lib.hid (fun W => of_any W (65535 - (n : Int)) 16 (by omega) (by decide))
    have HO3 := Lib.hid (fun W => of_any W (m : Int) 16 (by omega) (by decide))
    have HO4 := Lib.hid (fun W => of_any W (65535 - (m : Int)) 16 (by omega) (by decide))
    have HRA := Lib.hid hra
    have HRB := Lib.hid hrb
    have HB1 := Lib.hid (fun W (hb : Below w.heap.size w W) => bits_any W _ n c A a (hra.below hb) hb.size HBA.out (by omega))
    have HB2 := Lib.hid (fun W (hb : Below w.heap.size w W) => bits_any W _ m d C b (hrb.below hb) hb.size HBB.out (by omega))
    have HFL := Lib.hid (fun W => flen_any W K hK3.1 hK3.2)
    have HFD := Lib.hid (fun W => fdist_any W D hDn.1 (by omega))
    have HDn := Lib.hid hDn
    have HK3 := Lib.hid hK3
    clear hra hrb hi hz0 hz1 hz2 hbig
    have hmod : Ns % 256 = Ns := Int.emod_eq_of_lt hN'.1 hN'.2
    go_enter Try.func6, Try.ntmps6
    go_upto_if 42 with fail
    go_cut [10] (fun v10 wx => v10 = .int .i64 (K : Nat) ∧ wx = w)
    case first =>
      by_cases hb : 258 < Ns + 3
      · go_wp2_with fail
        all_goals go_meet
        all_goals exact ⟨by rw [show (K : Int) = 258 by omega], rfl⟩
      · go_wp2_with fail
        go_meet
        all_goals exact ⟨by rw [show (K : Int) = Ns + 3 by omega], rfl⟩
    case rest =>
      obtain ⟨rfl, rfl⟩ := hcut
      have h1 : LR wc (some ⟨wc.heap.size, 0, none⟩) 3 3 [0, 0, 0] ((wc.alloc (.cells #[.int .u8 0, .int .u8 0, .int .u8 0] 5)).alloc (.cells #[.int .u8 0, .int .u8 0, .int .u8 0, .int .u8 0, .int .u8 0] 5)) :=
        ⟨(OwnI.lit rfl [0, 0, 0] 5 (Nat.le_refl _) (by decide)).alloc _, ((Below.refl _ wc).alloc (Nat.le_refl _) _).alloc (by rw [heap_alloc_size]; omega) _⟩
      have hl1 := RdI.litg .u8 (heap_alloc_size wc (.cells #[.int .u8 0, .int .u8 0, .int .u8 0] 5)).symm [0, 0, 0, 0, 0] 5 (0, 0)
      have HM := Lib.hid hmod
      clear hmod hD hK
      go_wp2_with (at_builtin; (refine wpList_app .u8 wc.heap.size 5 i0 1 rfl (.tmp 43) (.tmp 44) _ rfl Try.underlying22 Hi.out Hz0.out Hz1.out Hz2.out rfl h1.1 rfl hl1 (by omega) (by omega) h1.2.size ?_); intro A2 d2 w2 hown hg hat; have h2 := h1.app hown hg; clear hown hg hat h1 hl1)
      refine (HO1.out _).mono ?_
      rintro e w3 hp
      obtain ⟨A3, n3, c3, rfl, h3, hr3⟩ := h2.call hp
      have hn3 : n3 ≤ 16 := by rw [hr3.1, ofN_length]; omega
      clear hp h2
      go_wp2_with (at_builtin; (refine wpList_app .u8 wc.heap.size 5 i0 1 rfl (.tmp 46) (.tmp 50) _ rfl Try.underlying22 Hi.out Hz0.out Hz1.out Hz2.out rfl h3.1 rfl hr3 (by omega) (by omega) h3.2.size ?_); intro A2 d2 w2 hown hg hat; have h4 := h3.app hown hg; clear hown hg hat h3)
      refine (HO2.out _).mono ?_
      rintro e w5 hp
      obtain ⟨A5, n5, c5, rfl, h5, hr5⟩ := h4.call hp
      have hn5 : n5 ≤ 16 := by rw [hr5.1, ofN_length]; omega
      clear hp h4
      go_wp2_with (at_builtin; (refine wpList_app .u8 wc.heap.size 5 i0 1 rfl (.tmp 52) (.tmp 57) _ rfl Try.underlying22 Hi.out Hz0.out Hz1.out Hz2.out rfl h5.1 rfl hr5 (by omega) (by omega) h5.2.size ?_); intro A2 d2 w2 hown hg hat; have h6 := h5.app hown hg; clear hown hg hat h5)
      refine (HB1.out _ h6.2).mono ?_
      rintro e w7 hp
      obtain ⟨A7, n7, c7, rfl, h7, hr7⟩ := h6.call hp
      have hn7 : n7 ≤ 3200 := by rw [hr7.1, bts_length]; have := HNA.out; omega
      clear hp h6
      go_wp2_with (first
        | (at_builtin; (refine wpList_app .u8 wc.heap.size 5 i0 1 rfl (.tmp 59) (.tmp 61) _ rfl Try.underlying22 Hi.out Hz0.out Hz1.out Hz2.out rfl h7.1 rfl hr7 (by omega) (by omega) h7.2.size ?_); intro A8 d8 w8 hown hg hat; have h8 := h7.app hown hg; clear hown hg hat)
        | (have _g := h8; at_builtin; (refine wpList_app .u8 wc.heap.size 5 i0 1 rfl (.tmp 63) (.tmp 64) _ rfl Try.underlying22 Hi.out Hz0.out Hz1.out Hz2.out rfl (h8.alloc (.cells #[.int .u8 0, .int .u8 1, .int .u8 0] 5)).1 rfl (RdI.lit .u8 w8 [0, 1, 0] 5) (by omega) (by omega) (h8.alloc (.cells #[.int .u8 0, .int .u8 1, .int .u8 0] 5)).2.size ?_); intro A9 d9 w9 hown hg hat; have h9 := (h8.alloc (.cells #[.int .u8 0, .int .u8 1, .int .u8 0] 5)).app hown hg; clear hown hg hat))
      refine (HFL.out _).mono ?_
      rintro e w10 ⟨j, v, hj, hv, hjv, hp⟩
      obtain ⟨A10, n10, c10, rfl, h10, hr10⟩ := h9.call hp
      have HJ := Lib.hid (⟨hj, hv, hjv⟩ : _ ∧ _ ∧ _)
      have hn10 : n10 ≤ 50 := by
        have : ∀ j, j < 29 → lE j ≤ 5 := by decide
        have := this j hj
        rw [hr10.1, List.length_append, lenC_length, ofN_length]; unfold lenN; split <;> omega
      clear hp hj hv hjv
      go_wp2_with (at_builtin; (refine wpList_app .u8 wc.heap.size 5 i0 1 rfl (.tmp 66) (.tmp 68) _ rfl Try.underlying22 Hi.out Hz0.out Hz1.out Hz2.out rfl h10.1 rfl hr10 (by omega) (by omega) h10.2.size ?_); intro A11 d11 w11 hown hg hat; have h11 := h10.app hown hg; clear hown hg hat)
      refine (HFD.out _).mono ?_
      rintro e w12 ⟨i, u, hi, hu, hiu, hp⟩
      obtain ⟨A12, n12, c12, rfl, h12, hr12⟩ := h11.call hp
      have HI := Lib.hid (⟨hi, hu, hiu⟩ : _ ∧ _ ∧ _)
      have hn12 : n12 ≤ 50 := by
        have : ∀ j, j < 30 → dE j ≤ 13 := by decide
        have := this i hi
        rw [hr12.1, List.length_append, hiB_length, ofN_length]; omega
      clear hp hi hu hiu h10 h9 h8 h7 hr10 hr7 h11
      go_wp2_with (first
        | (at_builtin; (refine wpList_app .u8 wc.heap.size 5 i0 1 rfl (.tmp 70) (.tmp 72) _ rfl Try.underlying22 Hi.out Hz0.out Hz1.out Hz2.out rfl h12.1 rfl hr12 (by omega) (by omega) h12.2.size ?_); intro A13 d13 w13 hown hg hat; have h13 := h12.app hown hg; clear hown hg hat)
        | (have _g := h13; at_builtin; (refine wpList_app .u8 wc.heap.size 5 i0 1 rfl (.tmp 74) (.tmp 75) _ rfl Try.underlying22 Hi.out Hz0.out Hz1.out Hz2.out rfl (h13.alloc (.cells #[.int .u8 0, .int .u8 0, .int .u8 0, .int .u8 0, .int .u8 0, .int .u8 0, .int .u8 0] 5)).1 rfl (RdI.lit .u8 w13 [0, 0, 0, 0, 0, 0, 0] 5) (by omega) (by omega) (h13.alloc (.cells #[.int .u8 0, .int .u8 0, .int .u8 0, .int .u8 0, .int .u8 0, .int .u8 0, .int .u8 0] 5)).2.size ?_); intro A14 d14 w14 hown hg hat; have h14 := (h13.alloc (.cells #[.int .u8 0, .int .u8 0, .int .u8 0, .int .u8 0, .int .u8 0, .int .u8 0, .int .u8 0] 5)).app hown hg; clear hown hg hat)
        | (have _g := h14; at_builtin; (refine wpList_app .u8 wc.heap.size 5 i0 1 rfl (.tmp 77) (.tmp 78) _ rfl Try.underlying22 Hi.out Hz0.out Hz1.out Hz2.out rfl (h14.alloc (.cells #[.int .u8 1, .int .u8 0, .int .u8 0] 5)).1 rfl (RdI.lit .u8 w14 [1, 0, 0] 5) (by omega) (by omega) (h14.alloc (.cells #[.int .u8 1, .int .u8 0, .int .u8 0] 5)).2.size ?_); intro A15 d15 w15 hown hg hat; have h15 := (h14.alloc (.cells #[.int .u8 1, .int .u8 0, .int .u8 0] 5)).app hown hg; clear hown hg hat))
      refine (even_any _ _ _ _ _ _ h15.1.rd (Nat.le_refl _) (by omega)).mono ?_
      rintro e w16 hp
      obtain ⟨A16, n16, c16, rfl, h16⟩ := h15.new hp
      clear hp h12 h13 h14 h15 hr12 _g
      have hn16 : n16 ≤ 4000 := by
        have hjl : ∀ j, j < 29 → lE j ≤ 5 := by decide
        have hil : ∀ j, j < 30 → dE j ≤ 13 := by decide
        have h1 := hjl j HJ.out.1
        have h2 := hil i HI.out.1
        have h3 : lenN j ≤ 8 := by unfold lenN; split <;> omega
        have h4 := HNA.out
        rw [h16.1.1, evn_length]
        simp only [List.length_append, ofN_length, hiB_length, bts_length, lenC_length, List.length_cons, List.length_nil]
        omega
      obtain ⟨L16, hL16⟩ : ∃ L : List Int, evn ([0, 0, 0] ++ [0, 0, 0, 0, 0] ++ ofN (n : Int) 16 ++ ofN (65535 - (n : Int)) 16 ++ bts a ++ [0, 1, 0] ++ (lenC j ++ ofN (v : Int) (lE j)) ++ (hiB (i : Int) 5 ++ ofN (u : Int) (dE i)) ++ [0, 0, 0, 0, 0, 0, 0] ++ [1, 0, 0]) = L := ⟨_, rfl⟩
      rw [hL16] at h16
      have HL16 := Lib.hid hL16
      clear hL16
      go_wp2_with fail
      refine (HO3.out _).mono ?_
      rintro e w17 hp
      obtain ⟨A17, n17, c17, rfl, h17, hr17⟩ := h16.call hp
      have hn17 : n17 ≤ 16 := by rw [hr17.1, ofN_length]; omega
      clear hp h16
      go_wp2_with (at_builtin; (refine wpList_app .u8 wc.heap.size 5 i0 1 rfl (.tmp 81) (.tmp 85) _ rfl Try.underlying22 Hi.out Hz0.out Hz1.out Hz2.out rfl h17.1 rfl hr17 (by omega) (by omega) h17.2.size ?_); intro A18 d18 w18 hown hg hat; have h18 := h17.app hown hg; clear hown hg hat)
      refine (HO4.out _).mono ?_
      rintro e w19 hp
      obtain ⟨A19, n19, c19, rfl, h19, hr19⟩ := h18.call hp
      have hn19 : n19 ≤ 16 := by rw [hr19.1, ofN_length]; omega
      clear hp h18 h17
      go_wp2_with (at_builtin; (refine wpList_app .u8 wc.heap.size 5 i0 1 rfl (.tmp 87) (.tmp 92) _ rfl Try.underlying22 Hi.out Hz0.out Hz1.out Hz2.out rfl h19.1 rfl hr19 (by omega) (by omega) h19.2.size ?_); intro A20 d20 w20 hown hg hat; have h20 := h19.app hown hg; clear hown hg hat)
      refine (HB2.out _ h20.2).mono ?_
      rintro e w21 hp
      obtain ⟨A21, n21, c21, rfl, h21, hr21⟩ := h20.call hp
      have hn21 : n21 ≤ 3200 := by rw [hr21.1, bts_length]; have := HNB.out; omega
      clear hp h20 h19
      go_wp2_with (first
        | (at_builtin; (refine wpList_app .u8 wc.heap.size 5 i0 1 rfl (.tmp 94) (.tmp 96) _ rfl Try.underlying22 Hi.out Hz0.out Hz1.out Hz2.out rfl h21.1 rfl hr21 (by omega) (by omega) h21.2.size ?_); intro A22 d22 w22 hown hg hat; have h22 := h21.app hown hg; clear hown hg hat)
        | (have _g := h22; at_builtin; (refine wpList_app .u8 w22.heap.size 5 i0 1 rfl (.tmp 98) (.tmp 99) _ rfl Try.underlying22 Hi.out Hz0.out Hz1.out Hz2.out rfl (OwnI.lit rfl [] _ (Nat.le_refl _) (by simp)) rfl ((HRA.out.below h22.2).alloc h22.2.size (.cells #[] 5)) (by omega) (by omega) (by simp) ?_); intro A23 d23 w23 hown23 hg23 hat23))
      rw [List.nil_append, Nat.zero_add] at hown23
      have hb23 : Below w22.heap.size w22 w23 := ((Below.refl _ w22).alloc (Nat.le_refl _) _).grown hg23 (by simp) (by simp [blkOf])
      have H22 := Lib.hid h22
      have hk22 : Hid (n16 + n17 + n19 + n21 ≤ 1000000) := by show _ ≤ _; omega
      obtain ⟨k22, hk22e⟩ : ∃ k, n16 + n17 + n19 + n21 = k := ⟨_, rfl⟩
      rw [hk22e] at H22 hk22 ⊢
      have HK22 := Lib.hid hk22
      clear h22 h21 hr21 hat23 hg23 hk22e hk22 hn16 hn17 hn19 hn21 hn3 hn5 hn7 hn10 hn12 _g
      go_loopg [12, 13] K (WantR w22 a D K)
      case atStart => exact ⟨0, A23, n, d23, Nat.zero_add _, rfl, rfl, by rw [again_zero, List.append_nil]; exact hown23, hb23⟩
      case round =>
        obtain ⟨j1, A5, q, d5, hjk, rfl, rfl, ho5, hb5⟩ := hrel
        have hq : q = n + j1 := by have := ho5.1; rw [List.length_append, again_length, ← HNA.out] at this; exact this
        by_cases hlt : 0 < gk
        · have hj0 : (0 : Int) ≤ j1 ∧ (j1 : Int) < K := by omega
          obtain ⟨P, hP⟩ : ∃ P : Nat, q - D = P := ⟨_, rfl⟩
          have hDq : D ≤ q := by have := HDn.out; omega
          have hD1 : 1 ≤ D := HDn.out.1
          have hPI : (q : Int) - (D : Int) = (P : Int) := by omega
          have hPb : (0 : Int) ≤ P ∧ (P : Int) < q := by omega
          have hqb : (q : Int) ≤ 1000 := by have := HK3.out; omega
          obtain ⟨g5, rfl⟩ := ho5.2.addr (by omega)
          have c5 := ho5.2.cell (i := P) (by omega)
          have hag := again_succ a D j1 HDn.out.1 (by rw [← HNA.out]; exact HDn.out.2)
          rw [← HNA.out, ← hq, hP] at hag
          obtain ⟨x, hx⟩ : ∃ x : Int, ix (a ++ again a D j1) P = x := ⟨_, rfl⟩
          rw [hx] at c5 hag
          have HAG := Lib.hid hag
          have ho6 := ho5.alloc (.cells #[.int .u8 x] 5)
          have hb6 := hb5.alloc hb5.size (.cells #[.int .u8 x] 5)
          have HQ := Lib.hid hq
          have HJK := Lib.hid hjk
          have HLT := Lib.hid hlt
          clear hag hx hP hq hjk hlt hDq hown23 hb23
          go_wp2_with (at_builtin; (refine wpList_app .u8 w22.heap.size 5 i0 1 rfl (.tmp 106) (.tmp 114) _ rfl Try.underlying22 Hi.out Hz0.out Hz1.out Hz2.out rfl ho6 rfl (RdI.lit .u8 wr [x] 5) (by omega) (by omega) (by have := hb6.size; exact this) ?_); intro A7 d7 w7 hown7 hg7 hat7)
          go_roundg (gk - 1)
          case measure => have := HLT.out; omega
          case rel => exact ⟨j1 + 1, A7, q + 1, d7, by have := HLT.out; have := HJK.out; omega, by go_num, rfl, by rw [HAG.out, ← List.append_assoc]; exact hown7, hb6.grown hg7 hb6.size (fun q hq => (ho5.2.lt hq).1)⟩
        · obtain rfl : gk = 0 := by omega
          obtain rfl : K = j1 := by omega
          have hqb : q ≤ 1000 := by have := HK3.out; omega
          have hbe := hb5.trans (Below.refl _ _)
          have hrb2 := HRB.out.below (H22.out.2.trans (hb5.mono H22.out.2.size))
          have HQ := Lib.hid hq
          have hbs := hb5.size
          clear hq hjk hlt hown23 hb23
          go_wp2_with (at_builtin; (refine wpList_app .u8 w22.heap.size 5 i0 1 rfl (.tmp 116) (.tmp 117) _ rfl Try.underlying22 Hi.out Hz0.out Hz1.out Hz2.out rfl ho5 rfl hrb2 (by omega) (by omega) hbs ?_); intro A8 d8 w8 hown8 hg8 hat8)
          have hb8 : Below w22.heap.size w22 w8 := hb5.grown hg8 hb5.size (fun q hq => (ho5.2.lt hq).1)
          have h8 : LR wc A22 k22 d22 (joinL a b j v i u) w8 := by
            have h := H22.out
            have e : L16 ++ ofN (m : Int) 16 ++ ofN (65535 - (m : Int)) 16 ++ bts b = joinL a b j v i u := by
              unfold joinL
              rw [← HL16.out, HNA.out, HNB.out]
            rw [e] at h
            exact ⟨h.1.keeps hb8, h.2.trans (hb8.mono h.2.size)⟩
          have hbit := joinL_bit a b j v i u
          obtain ⟨t, hF, hall, hx⟩ := join_all (a := a) (b := b) (M := 1048576) HJ.out.1 HI.out.1 HJ.out.2.1 HI.out.2.1 HBA.out HBB.out (by have := HNA.out; omega) (by have := HNB.out; omega) (by have := HNA.out; have := HNB.out; have := HJ.out.2.2; have := HK3.out; omega) (by have := HI.out.2.2; have := HDn.out; have := HNA.out; omega)
          rw [HI.out.2.2, HJ.out.2.2] at hall
          have HX := Lib.hid hx
          have HALL := Lib.hid hall
          have HBIT := Lib.hid hbit
          have hkb := HK22.out.out
          have hbyl : (byt (joinL a b j v i u)).length ≤ 1000000 := by
            have h1 := byt_length (joinL a b j v i u)
            have h2 := h8.1.1
            rw [h1]; omega
          have HBYL := Lib.hid hbyl
          have hw9 := fun W A B n c (hr : RdI .u8 W B A n (byt (joinL a b j v i u))) (hB : B ≤ W.heap.size) => whole_any W B A n c (byt (joinL a b j v i u)) hr hB (byt_bd HBIT.out) (by have := HBYL.out; omega) 1048576 1048576 (by decide) (by decide) (t, 8) hF
          have HW9 := Lib.hid hw9
          clear hg8 hat8 ho5 hrb2 hx hall hbit hbyl hw9 hF hbe hbs hb5
          refine (bytes_any w8 _ k22 d22 A22 _ h8.1.rd h8.1.2.capLe (Nat.le_refl _) HBIT.out (by omega)).mono ?_
          rintro e w9 ⟨A9, n9, c9, rfl, ho9, hb9⟩
          go_wp2_with fail
          refine (HW9.out w9 A9 _ n9 c9 ho9.rd (Nat.le_refl _)).mono ?_
          rintro e w10 ⟨A1, n1, cp1, A2, n2, c2, R2, rfl, hoo, hr2, hR8, -, hby2, hb10⟩
          have hR2 : R2 = [] := by
            have h1 := hR8 rfl
            have h2 : (bts R2).length = 0 := by rw [h1]; show t.x.length = 0; rw [HX.out]; rfl
            rw [bts_length] at h2
            exact List.eq_nil_of_length_eq_zero (by omega)
          subst hR2
          obtain rfl : n2 = 0 := hr2.1
          rw [show endE (t, 8) = 0 from rfl]
          have hb11 := (h8.2.trans (hb9.mono h8.2.size)).trans (hb10.mono (h8.2.trans (hb9.mono h8.2.size)).size)
          have ho11 := (hown8.keeps hb9).keeps hb10
          have hsz := hb11.size
          clear hR8 hby2 hr2 ho9 hown8 h8 hb8 HW9
          go_wp2_with fail
          refine (answers12_any _).mono ?_
          rintro e wa ⟨rfl, hba⟩
          have hs1 := (hoo.keeps hba).rd
          have hs2 := (ho11.keeps hba).rd
          have hn1 : (n1 : Int) ≤ 1000000000 := by
            have h1 := hoo.1
            have h2 : n1 = t.all.length := h1
            rw [HALL.out] at h2
            simp only [List.length_append, again_length] at h2
            have := HNA.out; have := HNB.out; have := HK3.out
            omega
          have hb12 := hb11.trans (hba.mono hb11.size)
          clear hoo ho11 hb9 hb10 hb11 hba
          go_wp2_with fail
          refine (same_any wa _ _ _ _ _ _ _ _ _ hs1 hs2 hn1 HALL.out).mono ?_
          rintro e w12 ⟨rfl, q2, rfl⟩
          go_wp2_with fail
          go_ret
          exact ⟨rfl, below_drewn hb12 q2⟩
end Go.Proofs.Ytoegpffdbfkcpaa
