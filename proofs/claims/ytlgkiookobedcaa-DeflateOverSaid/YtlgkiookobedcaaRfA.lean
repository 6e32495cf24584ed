/-
  The walks of the reference's take, emit, symbol.
-/
import Derived.Test.YtlgkiookobedcaaPk11
import Derived.Test.YtlgkiookobedcaaPk9
import Derived.BigRegion
import Derived.Deep.RegionLaw
namespace Go.Proofs.Ytlgkiookobedcaa
open Go.RowKit
set_option linter.unusedVariables false
section
variable {w w' w0 : World} {b0 g : Nat} {c c0 : Nat → Nat} {R R' : RM}
theorem RefS.nb (h : RefS w0 c0 w b0 g R) : R.nb = R.X.length := h.bits.1
set_option maxRecDepth 100000 in
set_option maxHeartbeats 2000000 in
theorem rtake_not (h : RefS w0 c0 w b0 g R) (n : Nat) (hn : n ≤ 32) (hX : R.X.length ≤ 1000000000000) (ha : R.at_ ≤ R.X.length) (hl : R.X.length < R.at_ + n) :
    Calls Try.prog 17 #[.pointer (some ⟨g, 0, none⟩), .int .i64 n] w fun e w' => e = .returned (.tuple #[.int .i64 0, .bool false]) ∧ RefS w0 c0 w' b0 g { R with E := 5 } := by
  obtain ⟨-, k1, -, -, -, k5, k6, -⟩ := h.cells
  have z1 := h.cell.frozen' (i := 1) (by omega)
  have hnb := h.nb
  obtain ⟨e, he⟩ : ∃ e, R.at_ + n = e := ⟨_, rfl⟩
  have hw : IntKind.i64.wrap ((R.at_ : Int) + (n : Int)) = (e : Int) := by rw [IntWalk.i64_in _ (by omega)]; omega
  have hcmp : (R.nb : Int) < (e : Int) := by omega
  have h1 := h.drew.put (i := 1) (by omega) (.int .i64 5) { R with E := 5 } (all13 rfl rfl rfl rfl rfl rfl rfl rfl rfl rfl rfl rfl rfl) rfl
  clear hnb he hl
  go_enter Try.func17, Try.ntmps17
  go_wp2_with fail
  go_region
  all_goals
    go_wp2_with fail
    go_ret2
    exact ⟨rfl, h1⟩
set_option maxRecDepth 100000 in
set_option maxHeartbeats 2000000 in
theorem rtake_ok (h : RefS w0 c0 w b0 g R) (n : Nat) (hn : n ≤ 32) (hX : R.X.length ≤ 1000000000000) (hbit : Bit R.X) (hl : R.at_ + n ≤ R.X.length) (V : Int) (hV : V = ((num (R.X.drop R.at_) n : Nat) : Int)) :
    Calls Try.prog 17 #[.pointer (some ⟨g, 0, none⟩), .int .i64 n] w fun e w' => e = .returned (.tuple #[.int .i64 V, .bool true]) ∧ RefS w0 c0 w' b0 g { R with at_ := R.at_ + n } := by
  obtain ⟨i0, hi, hz0, hz1, hz2⟩ := info_parts fbyte_info
  obtain ⟨-, k1, -, -, -, k5, k6, -⟩ := h.cells
  have z6 := h.cell.frozen' (i := 6) (by omega)
  have hnb := h.nb
  have hcap := h.bits.2.capLe
  obtain ⟨e, he⟩ : ∃ e, R.at_ + n = e := ⟨_, rfl⟩
  have hw : IntKind.i64.wrap ((R.at_ : Int) + (n : Int)) = (e : Int) := by rw [IntWalk.i64_in _ (by omega)]; omega
  have hAI : (0 : Int) ≤ (R.at_ : Int) ∧ (R.at_ : Int) ≤ 1000000000000 ∧ (n : Int) ≤ 32 := by omega
  have hcmp : ¬ (R.nb : Int) < (e : Int) := by omega
  have hsl := run_slice_mid (P := Try.prog) 22 5 Try.underlying22 hi hz1 R.Ab R.nb R.cb (a := R.at_) (b := e) (by omega) (by omega)
  have hnum : ∀ W, RefS w0 c0 W b0 g R → Calls Try.prog 32 #[.slice (cutA R.Ab R.cb R.at_) (e - R.at_) (R.cb - R.at_)] W fun e w' => e = .returned (.int .i64 V) ∧ W = w' := fun W hW => by
    have := number_any W W.heap.size (e - R.at_) (R.cb - R.at_) (cutA R.Ab R.cb R.at_) ((R.X.drop R.at_).take (e - R.at_)) ((hW.bits.rd.cutA (by omega) hcap).pre (by omega)) ((hbit.drop_ _).take_ _) (by omega)
    rw [hV, num_int (hbit.drop_ _), show n = e - R.at_ by omega]
    exact this
  have HNUM := Lib.hid hnum
  have HE := Lib.hid he
  have hput : Hid (RefS w0 c0 (w.setCell ⟨g, 6, none⟩ (.int .i64 (e : Int))) b0 g { R with at_ := R.at_ + n }) := by
    show RefS _ _ _ _ _ _
    rw [he]
    exact h.put (i := 6) (by omega) (.int .i64 e) { R with at_ := e } (all13 rfl rfl rfl rfl rfl rfl rfl rfl rfl rfl rfl rfl rfl) rfl
  clear hnb he hl hV hnum hi hz0 hz1 hz2 hcap
  go_enter Try.func17, Try.ntmps17
  go_wp2_with fail
  go_region
  all_goals
    go_wp2_with fail
    go_region_law
      ((go_simp; go_at_call 32; (refine (HNUM.out _ (by first | exact h.drew | exact h.drew.drew | exact h.drewN _)).mono ?_))
       rintro e w5 ⟨rfl, rfl⟩)
    all_goals
      go_wp2_with fail
      go_ret2
      exact ⟨rfl, hput.out.drew.drew⟩
def EmPost (w0 : World) (c0 : Nat → Nat) (b0 g : Nat) (R : RM) (v : Int) (e : Ending) (w' : World) : Prop :=
  ∃ A' n' c', e = .returned (.bool true) ∧ RefS w0 c0 w' b0 g { R with Ao := A', no := n', co := c', out := R.out ++ [v] }
set_option maxRecDepth 100000 in
set_option maxHeartbeats 2000000 in
theorem remit_not (h : RefS w0 c0 w b0 g R) (v : Int) (hl : R.most ≤ (R.out.length : Int)) :
    Calls Try.prog 33 #[.pointer (some ⟨g, 0, none⟩), .int .u8 v] w fun e w' => e = .returned (.bool false) ∧ RefS w0 c0 w' b0 g { R with E := 6 } := by
  obtain ⟨k0, k1, -, -, -, -, -, k7, -⟩ := h.cells
  have z1 := h.cell.frozen' (i := 1) (by omega)
  have hno := h.out.1
  have hcmp : R.most ≤ (R.no : Int) := by omega
  have hcmp2 : ¬ (R.no : Int) < R.most := by omega
  have h1 := h.drew.put (i := 1) (by omega) (.int .i64 6) { R with E := 6 } (all13 rfl rfl rfl rfl rfl rfl rfl rfl rfl rfl rfl rfl rfl) rfl
  clear hno hl
  go_enter Try.func33, Try.ntmps33
  go_wp2_with fail
  go_region
  all_goals
    go_wp2_with fail
    go_ret
    exact ⟨rfl, h1⟩
set_option maxRecDepth 100000 in
set_option maxHeartbeats 2000000 in
theorem remit_ok (h : RefS w0 c0 w b0 g R) (v : Int) (hl : (R.out.length : Int) < R.most) (hb : R.out.length ≤ 100000000000) :
    Calls Try.prog 33 #[.pointer (some ⟨g, 0, none⟩), .int .u8 v] w (EmPost w0 c0 b0 g R v) := by
  obtain ⟨i0, hi, hz0, hz1, hz2⟩ := info_parts fbyte_info
  have Hi := Lib.hid hi
  have Hz0 := Lib.hid hz0
  have Hz1 := Lib.hid hz1
  have Hz2 := Lib.hid hz2
  obtain ⟨k0, k1, -, -, -, -, -, k7, -⟩ := h.cells
  have hno := h.out.1
  have hcmp : (R.no : Int) < R.most := by omega
  have hcmp2 : ¬ R.most ≤ (R.no : Int) := by omega
  have hnob : R.no + 1 ≤ 1000000000000 := by omega
  have h1 := h
  have hoA := (h1.out.alloc (.cells #[.int .u8 v] 5)).drew
  have hlit := (RdI.lit .u8 w [v] 5).drewN 1
  have hb1 := h1.lo
  have hgl := h.cell.lt
  have hap := h.apart.1
  clear hno hl hb hi hz0 hz1 hz2
  go_enter Try.func33, Try.ntmps33
  go_wp2_with fail
  go_region
  all_goals
    go_wp2_with (at_builtin; (refine wpList_app .u8 b0 5 i0 1 rfl (.tmp 22) (.tmp 24) _ rfl Try.underlying22 Hi.out Hz0.out Hz1.out Hz2.out rfl hoA rfl hlit hnob (by omega) (by simp; omega) ?_)
                 intro A4 d4 w4 hown4 hg4 hat4
                 have har4 := (h1.cell.alloc (.cells #[.int .u8 v] 5)).drew.grown hg4 (fun e => hap e.symm)
                 have x0 := har4.cell (i := 0) (by omega)
                 have z0 := har4.frozen' (i := 0) (by omega))
    have hne : blkOf A4 ≠ some g := by
      rcases hat4 with e | e
      · rw [e]; exact hap
      · rw [e]; intro e2; injection e2 with e2; simp at e2; omega
    have h5 := h1.nout (A' := A4) (n' := R.no + 1) (c' := d4) (l' := R.out ++ [v]) (((((Chg.refl w _).alloc _).drew).grown hg4 (fun q hq => .inl (.inr hq))).setCell (p := ⟨g, 0, none⟩) (.inl (.inl rfl)) (.slice A4 (R.no + 1) d4)) ((har4.set_ (i := 0) (by omega) _).congr (all13 rfl rfl rfl rfl rfl rfl rfl rfl rfl rfl rfl rfl rfl)) (hown4.far (p := ⟨g, 0, none⟩) hne _) (fun k hk => by
      rcases hat4 with e | e
      · exact .inl (e ▸ hk)
      · rw [e] at hk; injection hk with hk; simp at hk; exact .inr (by show w.heap.size ≤ k; omega))
    go_ret
    exact ⟨A4, _, d4, rfl, h5⟩
def SymPost (w0 : World) (c0 : Nat → Nat) (b0 g : Nat) (R : RM) (K : Int) (n : Nat) (E : Int) (e : Ending) (w' : World) : Prop :=
  (E = 0 ∧ e = .returned (.tuple #[.int .i64 K, .bool true]) ∧ RefS w0 c0 w' b0 g { R with at_ := R.at_ + n }) ∨ (E ≠ 0 ∧ e = .returned (.tuple #[.int .i64 0, .bool false]) ∧ RefS w0 c0 w' b0 g { R with E := E })
set_option maxRecDepth 100000 in
set_option maxHeartbeats 2000000 in
theorem rsym_any (h : RefS w0 c0 w b0 g R) (Al Ac : Option Addr) (n cl cc : Nat) (l : List Int) (hl : RdI .i64 w w.heap.size Al n l) (hc : RdI .u32 w w.heap.size Ac n (codesOf l)) (hn : n ≤ 288) (hin : ∀ i, i < n → 0 ≤ ix l i ∧ ix l i ≤ 15)
    (hX : R.X.length ≤ 1000000000000) (hbit : Bit R.X) (ha : R.at_ ≤ R.X.length) (K : Int) (N : Nat) (E : Int) (hno : nextOf l (R.X.drop R.at_) = (K, N, E)) :
    Calls Try.prog 35 #[.pointer (some ⟨g, 0, none⟩), .slice Al n cl, .slice Ac n cc] w (SymPost w0 c0 b0 g R K N E) := by
  obtain ⟨-, k1, -, -, -, k5, k6, -⟩ := h.cells
  have hnb := h.nb
  have hread : Calls Try.prog 51 #[.slice Al n cl, .slice Ac n cc, .slice R.Ab R.nb R.cb, .int .i64 (R.at_ : Nat)] w.drew fun e w' => e = .returned (.tuple #[.int .i64 K, .int .i64 N, .int .i64 E]) ∧ Below w.heap.size w.drew w' := by
    have := rread_any w.drew Al Ac R.Ab n cl cc R.nb R.cb R.at_ l R.X hl hc (h.drew.bits.rd) hbit hn hin (by omega) (by omega)
    unfold SymReadPost at this
    rw [hno] at this
    exact this
  have hNb : E = 0 → R.at_ + N ≤ R.X.length := fun e => by
    have := nextOf_pos (l := l) (x := R.X.drop R.at_) (by rw [hno]; exact e)
    rw [hno, List.length_drop] at this
    simp only at this
    omega
  have hXI : Hid (R.X.length ≤ 1000000000000) := hX
  have HREAD := Lib.hid hread
  clear hread hno hnb hbit hl hc
  by_cases hE : E = 0
  · subst hE
    have hNb := hNb rfl
    have hAI : (0 : Int) ≤ (R.at_ : Int) ∧ (R.at_ : Int) ≤ 1000000000000 ∧ (0 : Int) ≤ N ∧ (N : Int) ≤ 1000000000000 := by omega
    go_enter Try.func35, Try.ntmps35
    go_wp2_with fail
    go_region_law
      ((go_simp; go_at_call 51; (refine HREAD.out.mono ?_))
       rintro e w5 ⟨rfl, hb5⟩
       have h5 := h.drew.keeps hb5
       obtain ⟨-, -, -, -, -, -, j6, -⟩ := h5.cells
       have z6 := h5.cell.frozen' (i := 6) (by omega))
    all_goals
      have h6 := h5.put (i := 6) (by omega) (.int .i64 ((R.at_ : Int) + (N : Int))) { R with at_ := R.at_ + N } (all13 rfl rfl rfl rfl rfl rfl rfl rfl rfl rfl rfl rfl rfl) rfl
      go_wp2_with fail
      go_ret2
      exact .inl ⟨rfl, rfl, h6⟩
  · have hEf : (E == 0) = false := by simpa using hE
    go_enter Try.func35, Try.ntmps35
    go_wp2_with fail
    go_region_law
      ((go_simp; go_at_call 51; (refine HREAD.out.mono ?_))
       rintro e w5 ⟨rfl, hb5⟩
       have h5 := h.drew.keeps hb5
       obtain ⟨-, j1, -⟩ := h5.cells
       have z1 := h5.cell.frozen' (i := 1) (by omega))
    all_goals
      have h6 := h5.put (i := 1) (by omega) (.int .i64 E) { R with E := E } (all13 rfl rfl rfl rfl rfl rfl rfl rfl rfl rfl rfl rfl rfl) rfl
      go_wp2_with fail
      go_ret2
      exact .inr ⟨hE, rfl, h6⟩
end
end Go.Proofs.Ytlgkiookobedcaa
