/-
  The walk of the statement GzipParses.
-/
import Derived.Test.YtgdmhicfeipbjaaHdU
import Derived.Test.YtgdmhicfeipbjaaOpenC
namespace Go.Proofs.Ytgdmhicfeipbjaa
open Go.RowKit
set_option linter.unusedVariables false

/-- what ParseHeader and Header say of bytes -/
def hdrOf (b : List Int) : HV := if q12 b = 0 then outH b (.slice none 0 0) else hz
def xlOf (b : List Int) : List Int := if q12 b = 0 then exL b else []
def nOf (b : List Int) : Int := if q12 b = 0 then b12 b else 0
theorem exL_le {b : List Int} (hb : ∀ x ∈ b, 0 ≤ x ∧ x < 256) : (exL b).length ≤ 1000000 := by
  unfold exL
  split
  · have h1 := leI_bd (tkL_bd hb (b7 b) (q7 b) 2)
    have h2 := tkL_le b (b7 b) (q7 b) 2
    have h3 : (256 : Int) ^ (tkL b (b7 b) (q7 b) 2).length ≤ 65536 := by
      obtain h | h | h : (tkL b (b7 b) (q7 b) 2).length = 0 ∨ (tkL b (b7 b) (q7 b) 2).length = 1 ∨ (tkL b (b7 b) (q7 b) 2).length = 2 := by omega
      all_goals rw [h]; decide
    have h4 := tkL_le b (b8 b) (q8 b) (xnV b).toNat
    have h5 : xnV b < 65536 := Int.lt_of_lt_of_le h1.2 h3
    omega
  · simp
theorem parse_same {w w' : World} {b : List Int} {E : Ending} (hb' : ∀ x ∈ b, 0 ≤ x ∧ x < 256) (h : ParsePost w b E w') :
    ∃ X m cc, m ≤ cc ∧ m ≤ 1000000 ∧ RdI .u8 w' w'.heap.size X m (xlOf b) ∧ Below w.heap.size w w' ∧ E = .returned (.tuple #[hagg { hdrOf b with ex := .slice X m cc }, .int .i64 (nOf b), .int .i64 (q12 b)]) := by
  obtain ⟨X, m, cc, xl, hmc, _, hr, hb, (⟨h0, rfl, rfl⟩ | ⟨h0, rfl⟩)⟩ := h
  · unfold hdrOf xlOf nOf
    rw [if_pos h0, if_pos h0, if_pos h0, h0]
    exact ⟨X, m, cc, hmc, by rw [hr.1]; exact exL_le hb', hr, hb, rfl⟩
  · unfold hdrOf xlOf nOf
    rw [if_neg h0, if_neg h0, if_neg h0]
    exact ⟨none, 0, 0, Nat.le_refl _, by omega, ⟨rfl, Rd.nil_⟩, hb, rfl⟩

set_option maxRecDepth 100000 in
set_option maxHeartbeats 4000000 in
theorem parses_law (A : Option Addr) (n c : Nat) (b : List Int) (w : World) (T : InC .u8 w A n c b) :
    Calls Try.prog 4 #[.slice A n c] w fun e w' => e = .returned (.bool true) ∧ Below w.heap.size w w' := by
  obtain ⟨R, m0, f0, lc0, cm0⟩ := T
  have hn : (n : Int) ≤ 9223372036854775807 := by unfold maxLen at m0; omega
  have hby : ∀ x ∈ b, 0 ≤ x ∧ x < 256 := fun x hx => bounds_u8 (f0 x hx)
  clear m0 f0 cm0
  by_cases h8 : 80000 < (n : Int)
  · go_enter Try.func4, Try.ntmps4
    go_wp2_with fail
    refine (answers13_any _).mono ?_
    rintro e w4 ⟨rfl, hb4⟩
    go_wp2
    go_ret
    exact ⟨rfl, hb4⟩
  have hn1 : (n : Int) ≤ 80000 ∧ (0 : Int) ≤ n := by omega
  obtain ⟨i0, hi, hz0, hz1, hz2⟩ := info_parts rbyte_info
  have Hi := Lib.hid hi
  have Hz0 := Lib.hid hz0
  have Hz1 := Lib.hid hz1
  have Hz2 := Lib.hid hz2
  clear hi hz0 hz1 hz2
  have hra := R.alloc (Nat.le_refl _) (.cells #[] 5)
  go_enter Try.func4, Try.ntmps4
  go_wp2_with (at_builtin; (refine wpList_app .u8 w.heap.size 5 i0 1 rfl (.tmp 14) (.tmp 15) _ rfl Try.underlying23 Hi.out Hz0.out Hz1.out Hz2.out rfl (OwnI.lit rfl [] _ (Nat.le_refl _) (by simp)) rfl hra (by simp; omega) (by omega) (by simp) ?_)
               intro A2 d2 w2 ho2 hg2 hat2)
  simp only [List.nil_append, Nat.zero_add] at ho2
  have hb2 : Below w.heap.size w w2 := ((Below.refl _ w).alloc (Nat.le_refl _) _).grown hg2 (by simp) (by simp [blkOf])
  have hd2 : n ≤ d2 := by
    rcases ho2.2 with ⟨_, h1, h2⟩ | ⟨_, _, _, _, _, h1, _⟩
    · omega
    · exact h1
  clear hra hg2 hat2
  have hp := parse_any w2 w2.heap.size n d2 A2 b ho2.rd (Nat.le_refl _) (by omega) hd2 hby
  have hq := fun W (hW : Below w.heap.size w W) => rheader_any W w.heap.size n c A b (R.below hW) hW.size (by omega) lc0 hby
  obtain ⟨h, hh⟩ : ∃ h, hdrOf b = h := ⟨_, rfl⟩
  obtain ⟨xl, hxl⟩ : ∃ h, xlOf b = h := ⟨_, rfl⟩
  obtain ⟨N, eN⟩ : ∃ h, nOf b = h := ⟨_, rfl⟩
  obtain ⟨E0, eE⟩ : ∃ h, q12 b = h := ⟨_, rfl⟩
  have hp2 := hp.mono fun _ _ h => parse_same hby h
  have hq2 := fun W hW => (hq W hW).mono fun _ _ h => parse_same hby h
  rw [hh, hxl, eN, eE] at hp2
  simp only [hh, hxl, eN, eE] at hq2
  obtain ⟨tx, sm, tm, fl, sy, ex, hE, nm, cm, hN, hC⟩ := h
  unfold hagg at hp2 hq2
  dsimp only at hp2 hq2
  have HQ := Lib.hid hq2
  clear hq2
  clear hp hq hh hxl eN eE
  refine hp2.mono ?_
  clear hp2
  rintro e w3 ⟨X, m, cc, hmc, hm8, hX, hb3, rfl⟩
  have hb4 := hb2.trans (hb3.mono hb2.size)
  have hw3 : w.heap.size ≤ w3.heap.size := hb4.size
  go_wp2_with fail
  have H1 : Ar (w3.alloc (.cells #[.bool tx, .bool sm, .int .u32 tm, .int .u8 fl, .int .u8 sy, .slice X m cc, .bool hE, .string nm, .string cm, .bool hN, .bool hC] 25)) w3.heap.size 11 (hf ⟨tx, sm, tm, fl, sy, .slice X m cc, hE, nm, cm, hN, hC⟩) :=
    Ar.new' rfl _ _ rfl (fun i hi => by
      rcases lt11 hi with rfl | rfl | rfl | rfl | rfl | rfl | rfl | rfl | rfl | rfl | rfl
      all_goals rfl)
  have hX2 := hX.alloc (Nat.le_refl _) (.cells #[.bool tx, .bool sm, .int .u32 tm, .int .u8 fl, .int .u8 sy, .slice X m cc, .bool hE, .string nm, .string cm, .bool hN, .bool hC] 25)
  have hb5 := hb4.alloc hw3 (.cells #[.bool tx, .bool sm, .int .u32 tm, .int .u8 fl, .int .u8 sy, .slice X m cc, .bool hE, .string nm, .string cm, .bool hN, .bool hC] 25)
  revert H1 hX2 hb5
  generalize w3.alloc (.cells #[.bool tx, .bool sm, .int .u32 tm, .int .u8 fl, .int .u8 sy, .slice X m cc, .bool hE, .string nm, .string cm, .bool hN, .bool hC] 25) = w4
  intro H1 hX2 hb5
  obtain ⟨Z1, hZ1⟩ : ∃ Z, w3.heap.size = Z := ⟨_, rfl⟩
  rw [hZ1] at H1 hX2 hw3 ⊢
  clear hZ1 hX hb4 hb3
  refine (HQ.out w4 hb5).mono ?_
  rintro e w5 ⟨X2, m2, cc2, hmc2, hm82, hY, hb6, rfl⟩
  have hb7 := hb5.trans (hb6.mono hb5.size)
  have H2 := H1.keeps hb6
  have hX3 := hX2.below (hb6.mono (by have := H1.lt; omega))
  have hZ1 : Z1 < w5.heap.size := H2.lt
  go_wp2_with fail
  have H3 : Ar (w5.alloc (.cells #[.bool tx, .bool sm, .int .u32 tm, .int .u8 fl, .int .u8 sy, .slice X2 m2 cc2, .bool hE, .string nm, .string cm, .bool hN, .bool hC] 25)) w5.heap.size 11 (hf ⟨tx, sm, tm, fl, sy, .slice X2 m2 cc2, hE, nm, cm, hN, hC⟩) :=
    Ar.new' rfl _ _ rfl (fun i hi => by
      rcases lt11 hi with rfl | rfl | rfl | rfl | rfl | rfl | rfl | rfl | rfl | rfl | rfl
      all_goals rfl)
  have H4 := H2.alloc (.cells #[.bool tx, .bool sm, .int .u32 tm, .int .u8 fl, .int .u8 sy, .slice X2 m2 cc2, .bool hE, .string nm, .string cm, .bool hN, .bool hC] 25)
  have hY2 := hY.alloc (Nat.le_refl _) (.cells #[.bool tx, .bool sm, .int .u32 tm, .int .u8 fl, .int .u8 sy, .slice X2 m2 cc2, .bool hE, .string nm, .string cm, .bool hN, .bool hC] 25)
  have hX4 := hX3.alloc (by omega) (.cells #[.bool tx, .bool sm, .int .u32 tm, .int .u8 fl, .int .u8 sy, .slice X2 m2 cc2, .bool hE, .string nm, .string cm, .bool hN, .bool hC] 25)
  have hb8 := hb7.alloc hb7.size (.cells #[.bool tx, .bool sm, .int .u32 tm, .int .u8 fl, .int .u8 sy, .slice X2 m2 cc2, .bool hE, .string nm, .string cm, .bool hN, .bool hC] 25)
  revert H3 H4 hY2 hX4 hb8
  generalize w5.alloc (.cells #[.bool tx, .bool sm, .int .u32 tm, .int .u8 fl, .int .u8 sy, .slice X2 m2 cc2, .bool hE, .string nm, .string cm, .bool hN, .bool hC] 25) = w6
  intro H3 H4 hY2 hX4 hb8
  obtain ⟨Z2, hZ2⟩ : ∃ Z, w5.heap.size = Z := ⟨_, rfl⟩
  rw [hZ2] at H3 hY2 hZ1 ⊢
  clear hZ2 hY hX3 hX2 H1 H2 hb7 hb6 hb5
  refine (answers13_any _).mono ?_
  rintro e w7 ⟨rfl, hb9⟩
  have H5 := H3.keeps hb9
  have H6 := H4.keeps hb9
  have hY3 := hY2.below (hb9.mono (by have := H3.lt; omega))
  have hX5 := hX4.below (hb9.mono (by have := H4.lt; omega))
  have hb10 := hb8.trans (hb9.mono hb8.size)
  have r0 : w7.cell? ⟨Z1, 0, none⟩ = some (.bool tx) := H6.cell (i := 0) (by omega)
  have r1 : w7.cell? ⟨Z1, 1, none⟩ = some (.bool sm) := H6.cell (i := 1) (by omega)
  have r2 : w7.cell? ⟨Z1, 2, none⟩ = some (.int .u32 tm) := H6.cell (i := 2) (by omega)
  have r3 : w7.cell? ⟨Z1, 3, none⟩ = some (.int .u8 fl) := H6.cell (i := 3) (by omega)
  have r4 : w7.cell? ⟨Z1, 4, none⟩ = some (.int .u8 sy) := H6.cell (i := 4) (by omega)
  have r5 : w7.cell? ⟨Z1, 5, none⟩ = some (.slice X m cc) := H6.cell (i := 5) (by omega)
  have r6 : w7.cell? ⟨Z1, 6, none⟩ = some (.bool hE) := H6.cell (i := 6) (by omega)
  have r7 : w7.cell? ⟨Z1, 7, none⟩ = some (.string nm) := H6.cell (i := 7) (by omega)
  have r8 : w7.cell? ⟨Z1, 8, none⟩ = some (.string cm) := H6.cell (i := 8) (by omega)
  have r9 : w7.cell? ⟨Z1, 9, none⟩ = some (.bool hN) := H6.cell (i := 9) (by omega)
  have r10 : w7.cell? ⟨Z1, 10, none⟩ = some (.bool hC) := H6.cell (i := 10) (by omega)
  have s0 : w7.cell? ⟨Z2, 0, none⟩ = some (.bool tx) := H5.cell (i := 0) (by omega)
  have s1 : w7.cell? ⟨Z2, 1, none⟩ = some (.bool sm) := H5.cell (i := 1) (by omega)
  have s2 : w7.cell? ⟨Z2, 2, none⟩ = some (.int .u32 tm) := H5.cell (i := 2) (by omega)
  have s3 : w7.cell? ⟨Z2, 3, none⟩ = some (.int .u8 fl) := H5.cell (i := 3) (by omega)
  have s4 : w7.cell? ⟨Z2, 4, none⟩ = some (.int .u8 sy) := H5.cell (i := 4) (by omega)
  have s5 : w7.cell? ⟨Z2, 5, none⟩ = some (.slice X2 m2 cc2) := H5.cell (i := 5) (by omega)
  have s6 : w7.cell? ⟨Z2, 6, none⟩ = some (.bool hE) := H5.cell (i := 6) (by omega)
  have s7 : w7.cell? ⟨Z2, 7, none⟩ = some (.string nm) := H5.cell (i := 7) (by omega)
  have s8 : w7.cell? ⟨Z2, 8, none⟩ = some (.string cm) := H5.cell (i := 8) (by omega)
  have s9 : w7.cell? ⟨Z2, 9, none⟩ = some (.bool hN) := H5.cell (i := 9) (by omega)
  have s10 : w7.cell? ⟨Z2, 10, none⟩ = some (.bool hC) := H5.cell (i := 10) (by omega)
  have hs := sameh_any w7 w7.heap.size m cc m2 cc2 X X2 xl ⟨tx, sm, tm, fl, sy, ex, hE, nm, cm, hN, hC⟩ (hX5.more (by have := H6.lt; omega)) (hY3.more (by have := H5.lt; omega)) (Nat.le_refl _) (by omega)
  unfold hagg at hs
  dsimp only at hs
  have HS := Lib.hid hs
  clear hs
  go_wp2_with fail
  refine HS.out.mono ?_
  rintro e w8 ⟨rfl, hb11⟩
  go_wp2
  go_ret
  exact ⟨rfl, hb10.trans (hb11.mono hb10.size)⟩
end Go.Proofs.Ytgdmhicfeipbjaa
