/-
  The walk of the reference's fixed.
-/
import Derived.Test.YtoegpffdbfkcpaaRfA
import Derived.Test.YtoegpffdbfkcpaaFixL
import Derived.Deep.DeepCutAuto
namespace Go.Proofs.Ytoegpffdbfkcpaa
open Go.RowKit
set_option linter.unusedVariables false
section
variable {w w' w0 wr w4 : World} {b0 g : Nat} {c c0 : Nat → Nat} {R R1 R' : RM}
/-- a length more in a slice that is the call's own, and the cell that holds it -/
theorem fixS_push {A A4 : Option Addr} {k d d4 : Nat} {l : List Int} (hM1 : RefM wr b0 g c R1) (hc1 : Chg w wr (fun k => k = g)) (ho : OwnI .i64 wr w.heap.size 3 A k d l) (hcb : ∀ q, c q ≠ 0 → q < w.heap.size) (hgl : g < w.heap.size) (hlow : w.heap.size ≤ wr.heap.size) (v : Int) (i : Nat) (hi : i < 13) (R' : RM) (hF : ∀ j, j < 13 → upd (sF R1) i (.slice A4 (k + 1) d4) j = sF R' j)
    (hR : R' = { R1 with E := R'.E, rest := R'.rest, at_ := R'.at_, most := R'.most, Al := R'.Al, Ad := R'.Ad, Alc := R'.Alc, Adc := R'.Adc })
    (hg4 : (wr.alloc (.cells #[.int .i64 v] 3)).grownBy w4 (blkOf A)) (hown4 : OwnI .i64 w4 w.heap.size 3 A4 (k + 1) d4 (l ++ [v])) (hat : blkOf A4 = blkOf A ∨ blkOf A4 = some (wr.alloc (.cells #[.int .i64 v] 3)).heap.size) :
    RefM (w4.setCell ⟨g, i, none⟩ (.slice A4 (k + 1) d4)) b0 g c R' ∧ Chg w (w4.setCell ⟨g, i, none⟩ (.slice A4 (k + 1) d4)) (fun k => k = g) ∧ OwnI .i64 (w4.setCell ⟨g, i, none⟩ (.slice A4 (k + 1) d4)) w.heap.size 3 A4 (k + 1) d4 (l ++ [v]) := by
  have hlo : ∀ q, blkOf A = some q → w.heap.size ≤ q := fun q hq => (ho.2.lt hq).1
  have hc : Chg wr w4 (fun q => blkOf A = some q) := ((Chg.refl wr (fun q => blkOf A = some q)).alloc _).grown hg4 (fun q e => .inl e)
  have hM4 := hM1.aside hc (fun q hq => by
    by_cases e : c q = 0
    · exact e
    · have := hcb q e; have := hlo q hq; omega)
  have hne : blkOf A4 ≠ some g := fun e => by have := (hown4.2.lt e).1; omega
  exact ⟨hM4.put hi _ R' hF hR, ((hc1.trans hc (fun q hq => .inr (hlo q hq))).setCell (p := ⟨g, i, none⟩) (.inl rfl) _), hown4.far (p := ⟨g, i, none⟩) hne _⟩
def FxR (w : World) (b0 g : Nat) (c : Nat → Nat) (R : RM) (k : Nat) (i : Value) (wr : World) : Prop :=
  ∃ (j d : Nat) (A : Option Addr), j ≤ 288 ∧ Hid (k = 288 - j) ∧ i = .int .i64 j ∧ RefM wr b0 g c { R with Al := .slice A j d, Ad := .slice none 0 0 } ∧ Chg w wr (fun k => k = g) ∧ OwnI .i64 wr w.heap.size 3 A j d (fixL.take j) ∧ w.heap.size ≤ wr.heap.size
def FxS (w : World) (b0 g : Nat) (c : Nat → Nat) (R : RM) (A0 : Option Addr) (d0 : Nat) (k : Nat) (i : Value) (wr : World) : Prop :=
  ∃ (j d : Nat) (A : Option Addr), j ≤ 32 ∧ Hid (k = 32 - j) ∧ i = .int .i64 j ∧ RefM wr b0 g c { R with Al := .slice A0 288 d0, Ad := .slice A j d } ∧ Chg w wr (fun k => k = g) ∧ OwnI .i64 wr w.heap.size 3 A j d (fixD.take j) ∧ OwnI .i64 wr w.heap.size 3 A0 288 d0 fixL ∧ (∀ q, blkOf A = some q → blkOf A0 ≠ some q) ∧ w.heap.size ≤ wr.heap.size
def FxPost (w : World) (b0 g : Nat) (c : Nat → Nat) (R : RM) (e : Ending) (w' : World) : Prop :=
  ∃ A1 d1 A2 d2, e = .returned (.tuple #[]) ∧ RefM w' b0 g c { R with Al := .slice A1 288 d1, Ad := .slice A2 32 d2 } ∧ Chg w w' (fun k => k = g) ∧ OwnI .i64 w' w.heap.size 3 A1 288 d1 fixL ∧ OwnI .i64 w' w.heap.size 3 A2 32 d2 fixD
set_option maxRecDepth 100000 in
set_option maxHeartbeats 4000000 in
theorem rfixed_any (h : RefM w b0 g c R) :
    Calls Try.prog 22 #[.pointer (some ⟨g, 0, none⟩)] w (FxPost w b0 g c R) := by
  obtain ⟨i0, hi, hz0, hz1, hz2⟩ := info_parts xint_info
  have Hi := Lib.hid hi
  have Hz0 := Lib.hid hz0
  have Hz1 := Lib.hid hz1
  have Hz2 := Lib.hid hz2
  have hgl := h.cell.lt
  have hcb : ∀ q, c q ≠ 0 → q < w.heap.size := fun q hq => (h.cb q hq).2
  have k8 := h.cell.cell (i := 8) (by omega)
  have k9 := h.cell.cell (i := 9) (by omega)
  have z8 := h.cell.frozen' (i := 8) (by omega)
  have z9 := h.cell.frozen' (i := 9) (by omega)
  have h1 := (h.put (i := 8) (by omega) (.slice none 0 0) { R with Al := .slice none 0 0 } (all13 rfl rfl rfl rfl rfl rfl rfl rfl rfl rfl rfl rfl rfl) rfl).put (i := 9) (by omega) (.slice none 0 0) { R with Al := .slice none 0 0, Ad := .slice none 0 0 } (all13 rfl rfl rfl rfl rfl rfl rfl rfl rfl rfl rfl rfl rfl) rfl
  have hcc : Chg w ((w.setCell ⟨g, 8, none⟩ (.slice none 0 0)).setCell ⟨g, 9, none⟩ (.slice none 0 0)) (fun k => k = g) := ((Chg.refl w (fun k => k = g)).setCell (p := ⟨g, 8, none⟩) (.inl rfl) _).setCell (p := ⟨g, 9, none⟩) (.inl rfl) _
  clear hi hz0 hz1 hz2
  go_enter Try.func22, Try.ntmps22
  go_wp2_with fail
  go_loopg [2] 288 (FxR w b0 g c R)
  case atStart => exact ⟨0, 0, none, Nat.zero_le _, rfl, rfl, h1, hcc, OwnI.nil_, hcc.size⟩
  case round =>
    clear h1 hcc k8 k9 z8 z9
    obtain ⟨k, d, A, hk, hk2, rfl, hM1, hc1, ho, hlow⟩ := hrel
    have k8 := hM1.cell.cell (i := 8) (by omega)
    rw [show sF { R with Al := .slice A k d, Ad := .slice none 0 0 } 8 = .slice A k d from rfl] at k8
    have hgr := hM1.cell.lt
    have hap : blkOf A ≠ some g := fun e => by have := (ho.2.lt e).1; omega
    by_cases hlt : k < 288
    · have hkI : (k : Int) < 288 ∧ (0 : Int) ≤ k := by omega
      have ht := fixL_take hlt
      rw [fixL_at k hlt] at ht
      have hcs : (k : Int) < 144 ∨ ((144 : Int) ≤ k ∧ (k : Int) < 256) ∨ ((144 : Int) ≤ k ∧ (256 : Int) ≤ k ∧ ¬ (k : Int) < 256 ∧ (k : Int) < 280) ∨ ((144 : Int) ≤ k ∧ (256 : Int) ≤ k ∧ ¬ (k : Int) < 256 ∧ ¬ (k : Int) < 280) := by omega
      rcases hcs with h1 | ⟨h1, h2⟩ | ⟨h1, h2, h3, h4⟩ | ⟨h1, h2, h3, h4⟩
      · rw [if_pos (by omega)] at ht
        have HT := Lib.hid ht
        clear ht
        have hoA := ho.alloc (.cells #[.int .i64 8] 3)
        go_wp2_with (at_builtin; (refine wpList_app .i64 w.heap.size 3 i0 8 rfl (.tmp 31) (.tmp 33) _ rfl Try.underlying28 Hi.out Hz0.out Hz1.out Hz2.out rfl hoA rfl (RdI.lit .i64 wr [8] 3) (by omega) (by omega) (by simp; omega) ?_)
                     intro A4 d4 w4 hown4 hg4 hat4
                     have har4 := (hM1.cell.alloc (.cells #[.int .i64 8] 3)).grown hg4 (fun e => hap e.symm)
                     have x8 := har4.cell (i := 8) (by omega)
                     have z8 := har4.frozen' (i := 8) (by omega))
        have hnew := fixS_push hM1 hc1 ho hcb hgl hlow 8 8 (by omega) { R with Al := .slice A4 (k + 1) d4, Ad := .slice none 0 0 } (all13 rfl rfl rfl rfl rfl rfl rfl rfl rfl rfl rfl rfl rfl) rfl hg4 hown4 hat4
        go_roundg (gk - 1)
        case measure => have := hk2.out; omega
        case rel => exact ⟨k + 1, d4, A4, hlt, by show gk - 1 = _; have := hk2.out; omega, by go_num, hnew.1, hnew.2.1, by rw [HT.out]; exact hnew.2.2, by have := hc1.size; have := hnew.2.1.size; omega⟩
      · rw [if_neg (by omega), if_pos (by omega)] at ht
        have HT := Lib.hid ht
        clear ht
        have hoA := ho.alloc (.cells #[.int .i64 9] 3)
        go_wp2_with (at_builtin; (refine wpList_app .i64 w.heap.size 3 i0 8 rfl (.tmp 31) (.tmp 33) _ rfl Try.underlying28 Hi.out Hz0.out Hz1.out Hz2.out rfl hoA rfl (RdI.lit .i64 wr [9] 3) (by omega) (by omega) (by simp; omega) ?_)
                     intro A4 d4 w4 hown4 hg4 hat4
                     have har4 := (hM1.cell.alloc (.cells #[.int .i64 9] 3)).grown hg4 (fun e => hap e.symm)
                     have x8 := har4.cell (i := 8) (by omega)
                     have z8 := har4.frozen' (i := 8) (by omega))
        have hnew := fixS_push hM1 hc1 ho hcb hgl hlow 9 8 (by omega) { R with Al := .slice A4 (k + 1) d4, Ad := .slice none 0 0 } (all13 rfl rfl rfl rfl rfl rfl rfl rfl rfl rfl rfl rfl rfl) rfl hg4 hown4 hat4
        go_roundg (gk - 1)
        case measure => have := hk2.out; omega
        case rel => exact ⟨k + 1, d4, A4, hlt, by show gk - 1 = _; have := hk2.out; omega, by go_num, hnew.1, hnew.2.1, by rw [HT.out]; exact hnew.2.2, by have := hc1.size; have := hnew.2.1.size; omega⟩
      · rw [if_neg (by omega), if_neg (by omega), if_pos (by omega)] at ht
        have HT := Lib.hid ht
        clear ht
        have hoA := ho.alloc (.cells #[.int .i64 7] 3)
        go_wp2_with (at_builtin; (refine wpList_app .i64 w.heap.size 3 i0 8 rfl (.tmp 31) (.tmp 33) _ rfl Try.underlying28 Hi.out Hz0.out Hz1.out Hz2.out rfl hoA rfl (RdI.lit .i64 wr [7] 3) (by omega) (by omega) (by simp; omega) ?_)
                     intro A4 d4 w4 hown4 hg4 hat4
                     have har4 := (hM1.cell.alloc (.cells #[.int .i64 7] 3)).grown hg4 (fun e => hap e.symm)
                     have x8 := har4.cell (i := 8) (by omega)
                     have z8 := har4.frozen' (i := 8) (by omega))
        have hnew := fixS_push hM1 hc1 ho hcb hgl hlow 7 8 (by omega) { R with Al := .slice A4 (k + 1) d4, Ad := .slice none 0 0 } (all13 rfl rfl rfl rfl rfl rfl rfl rfl rfl rfl rfl rfl rfl) rfl hg4 hown4 hat4
        go_roundg (gk - 1)
        case measure => have := hk2.out; omega
        case rel => exact ⟨k + 1, d4, A4, hlt, by show gk - 1 = _; have := hk2.out; omega, by go_num, hnew.1, hnew.2.1, by rw [HT.out]; exact hnew.2.2, by have := hc1.size; have := hnew.2.1.size; omega⟩
      · rw [if_neg (by omega), if_neg (by omega), if_neg (by omega)] at ht
        have HT := Lib.hid ht
        clear ht
        have hoA := ho.alloc (.cells #[.int .i64 8] 3)
        go_wp2_with (at_builtin; (refine wpList_app .i64 w.heap.size 3 i0 8 rfl (.tmp 31) (.tmp 33) _ rfl Try.underlying28 Hi.out Hz0.out Hz1.out Hz2.out rfl hoA rfl (RdI.lit .i64 wr [8] 3) (by omega) (by omega) (by simp; omega) ?_)
                     intro A4 d4 w4 hown4 hg4 hat4
                     have har4 := (hM1.cell.alloc (.cells #[.int .i64 8] 3)).grown hg4 (fun e => hap e.symm)
                     have x8 := har4.cell (i := 8) (by omega)
                     have z8 := har4.frozen' (i := 8) (by omega))
        have hnew := fixS_push hM1 hc1 ho hcb hgl hlow 8 8 (by omega) { R with Al := .slice A4 (k + 1) d4, Ad := .slice none 0 0 } (all13 rfl rfl rfl rfl rfl rfl rfl rfl rfl rfl rfl rfl rfl) rfl hg4 hown4 hat4
        go_roundg (gk - 1)
        case measure => have := hk2.out; omega
        case rel => exact ⟨k + 1, d4, A4, hlt, by show gk - 1 = _; have := hk2.out; omega, by go_num, hnew.1, hnew.2.1, by rw [HT.out]; exact hnew.2.2, by have := hc1.size; have := hnew.2.1.size; omega⟩
    · obtain rfl : k = 288 := by omega
      have hL : fixL.take 288 = fixL := List.take_of_length_le (by rw [fixL_len]; omega)
      rw [hL] at ho
      have HL := Lib.hid hL
      clear hL hap hk2
      go_wp2_with fail
      go_loopg [4] 32 (FxS w b0 g c R A d)
      case atStart => exact ⟨0, 0, none, Nat.zero_le _, rfl, rfl, hM1, hc1, OwnI.nil_, ho, fun q hq => by simp [blkOf] at hq, hlow⟩
      case round =>
        clear k8 hM1 hc1 ho hlow hgr
        obtain ⟨k, d3, A3, hk, hk2, rfl, hM1, hc1, ho, ho0, hsep, hlow⟩ := hrel
        have k9 := hM1.cell.cell (i := 9) (by omega)
        rw [show sF { R with Al := .slice A 288 d, Ad := .slice A3 k d3 } 9 = .slice A3 k d3 from rfl] at k9
        have hgr := hM1.cell.lt
        have hap : blkOf A3 ≠ some g := fun e => by have := (ho.2.lt e).1; omega
        by_cases hlt : k < 32
        · have hkI : (k : Int) < 32 ∧ (0 : Int) ≤ k := by omega
          have HT := Lib.hid (fixD_take hlt)
          have hoA := ho.alloc (.cells #[.int .i64 5] 3)
          go_wp2_with (at_builtin; (refine wpList_app .i64 w.heap.size 3 i0 8 rfl (.tmp 45) (.tmp 46) _ rfl Try.underlying28 Hi.out Hz0.out Hz1.out Hz2.out rfl hoA rfl (RdI.lit .i64 wr [5] 3) (by omega) (by omega) (by simp; omega) ?_)
                       intro A4 d4 w4 hown4 hg4 hat4
                       have har4 := (hM1.cell.alloc (.cells #[.int .i64 5] 3)).grown hg4 (fun e => hap e.symm)
                       have x9 := har4.cell (i := 9) (by omega)
                       have z9 := har4.frozen' (i := 9) (by omega))
          have hnew := fixS_push hM1 hc1 ho hcb hgl hlow 5 9 (by omega) { R with Al := .slice A 288 d, Ad := .slice A4 (k + 1) d4 } (all13 rfl rfl rfl rfl rfl rfl rfl rfl rfl rfl rfl rfl rfl) rfl hg4 hown4 hat4
          have ho0' : OwnI .i64 (w4.setCell ⟨g, 9, none⟩ (.slice A4 (k + 1) d4)) w.heap.size 3 A 288 d fixL := ((ho0.alloc (.cells #[.int .i64 5] 3)).grown hg4 (by
            by_cases e : blkOf A = none
            · exact .inr e
            · refine .inl fun e2 => ?_
              cases hA3 : blkOf A3 with
              | none => rw [hA3] at e2; exact e e2
              | some q => exact hsep q hA3 (by rw [e2, hA3]))).far (p := ⟨g, 9, none⟩) (fun (e : blkOf A = some g) => by have := (ho0.2.lt e).1; omega) _
          have hsep' : ∀ q, blkOf A4 = some q → blkOf A ≠ some q := fun q hq e => by
            rcases hat4 with h4 | h4
            · exact hsep q (by rw [← h4]; exact hq) e
            · rw [h4] at hq; injection hq with hq; have := (ho0.2.lt e).2; simp at hq; omega
          go_roundg (gk - 1)
          case measure => have := hk2.out; omega
          case rel => exact ⟨k + 1, d4, A4, hlt, by show gk - 1 = _; have := hk2.out; omega, by go_num, hnew.1, hnew.2.1, by rw [HT.out]; exact hnew.2.2, ho0', hsep', by have := hc1.size; have := hnew.2.1.size; omega⟩
        · obtain rfl : k = 32 := by omega
          have hD : Hid (fixD.take 32 = fixD) := List.take_of_length_le (by rw [fixD_len]; omega)
          go_wp2_with fail
          go_end0
          exact ⟨A, d, A3, d3, rfl, hM1, hc1, ho0, by rw [hD.out] at ho; exact ho⟩
end
end Go.Proofs.Ytoegpffdbfkcpaa
