/-
  Several texts in one (written by pack2.py): RfC, RfB.
-/
import Derived.Test.YtlgkiookobedcaaRfA
import Derived.Test.YtlgkiookobedcaaPk10
import Derived.Deep.DeepCutAuto
namespace Go.Proofs.Ytlgkiookobedcaa
open Go.RowKit
set_option linter.unusedVariables false
section
variable {w w' w0 wr w4 : World} {b0 g : Nat} {c c0 : Nat → Nat} {R R1 R' : RM}
theorem fixS_push {A A4 : Option Addr} {k d d4 : Nat} {l : List Int} (hM1 : RefM wr b0 g c R1) (hc1 : Chg w wr (fun k => k = g)) (ho : OwnI .i64 wr w.heap.size 3 A k d l) (hcb : ∀ q, c q ≠ 0 → q < w.heap.size) (hgl : g < w.heap.size) (hlow : w.heap.size ≤ wr.heap.size) (v : Int) (i : Nat) (hi : i < 13) (R' : RM) (hF : ∀ j, j < 13 → upd (sF R1) i (.slice A4 (k + 1) d4) j = sF R' j)
    (hR : R' = { R1 with E := R'.E, rest := R'.rest, at_ := R'.at_, most := R'.most, Al := R'.Al, Ad := R'.Ad, Alc := R'.Alc, Adc := R'.Adc })
    (hg4 : (wr.alloc (.cells #[.int .i64 v] 3)).grownBy w4 (blkOf A)) (hown4 : OwnI .i64 w4 w.heap.size 3 A4 (k + 1) d4 (l ++ [v])) (hat : blkOf A4 = blkOf A ∨ blkOf A4 = some (wr.alloc (.cells #[.int .i64 v] 3)).heap.size) :
    RefM (w4.setCell ⟨g, i, none⟩ (.slice A4 (k + 1) d4)) b0 g c R' ∧ Chg w (w4.setCell ⟨g, i, none⟩ (.slice A4 (k + 1) d4)) (fun k => k = g) ∧ OwnI .i64 (w4.setCell ⟨g, i, none⟩ (.slice A4 (k + 1) d4)) w.heap.size 3 A4 (k + 1) d4 (l ++ [v]) := by
  have hlo : ∀ q, blkOf A = some q → w.heap.size ≤ q := fun q hq => (ho.2.lt hq).1
  have hc : Chg wr w4 (fun q => blkOf A = some q) := ((Chg.refl wr (fun q => blkOf A = some q)).alloc _).grown hg4 (fun q e => .inl e)
  have hM4 := hM1.aside hc (fun q hq => by
    by_cases e : c q = 0
    · exact e
    · have := hcb q e; have := hlo q hq; omega)
  have hne : blkOf A4 ≠ some g := fun e => by have := (hown4.2.lt e).1; omega
  exact ⟨hM4.put hi _ R' hF hR, ((hc1.trans hc (fun q hq => .inr (hlo q hq))).setCell (p := ⟨g, i, none⟩) (.inl rfl) _), hown4.far (p := ⟨g, i, none⟩) hne _⟩
def FxR (w : World) (b0 g : Nat) (c : Nat → Nat) (R : RM) (k : Nat) (i : Value) (wr : World) : Prop :=
  ∃ (j d : Nat) (A : Option Addr), j ≤ 288 ∧ Hid (k = 288 - j) ∧ i = .int .i64 j ∧ RefM wr b0 g c { R with Al := .slice A j d, Ad := .slice none 0 0 } ∧ Chg w wr (fun k => k = g) ∧ OwnI .i64 wr w.heap.size 3 A j d (fixL.take j) ∧ w.heap.size ≤ wr.heap.size
def FxS (w : World) (b0 g : Nat) (c : Nat → Nat) (R : RM) (A0 : Option Addr) (d0 : Nat) (k : Nat) (i : Value) (wr : World) : Prop :=
  ∃ (j d : Nat) (A : Option Addr), j ≤ 32 ∧ Hid (k = 32 - j) ∧ i = .int .i64 j ∧ RefM wr b0 g c { R with Al := .slice A0 288 d0, Ad := .slice A j d } ∧ Chg w wr (fun k => k = g) ∧ OwnI .i64 wr w.heap.size 3 A j d (fixD.take j) ∧ OwnI .i64 wr w.heap.size 3 A0 288 d0 fixL ∧ (∀ q, blkOf A = some q → blkOf A0 ≠ some q) ∧ w.heap.size ≤ wr.heap.size
def FxPost (w : World) (b0 g : Nat) (c : Nat → Nat) (R : RM) (e : Ending) (w' : World) : Prop :=
  ∃ A1 d1 A2 d2, e = .returned (.tuple #[]) ∧ RefM w' b0 g c { R with Al := .slice A1 288 d1, Ad := .slice A2 32 d2 } ∧ Chg w w' (fun k => k = g) ∧ OwnI .i64 w' w.heap.size 3 A1 288 d1 fixL ∧ OwnI .i64 w' w.heap.size 3 A2 32 d2 fixD
set_option maxRecDepth 100000 in
set_option maxHeartbeats 4000000 in
theorem rfixed_any (h : RefM w b0 g c R) :
    Calls Try.prog 19 #[.pointer (some ⟨g, 0, none⟩)] w (FxPost w b0 g c R) := by
  obtain ⟨i0, hi, hz0, hz1, hz2⟩ := info_parts xint_info
  have Hi := Lib.hid hi
  have Hz0 := Lib.hid hz0
  have Hz1 := Lib.hid hz1
  have Hz2 := Lib.hid hz2
  have hgl := h.cell.lt
  have hcb : ∀ q, c q ≠ 0 → q < w.heap.size := fun q hq => (h.cb q hq).2
  have k8 := h.cell.cell (i := 8) (by omega)
  have k9 := h.cell.cell (i := 9) (by omega)
  have z8 := h.cell.frozen' (i := 8) (by omega)
  have z9 := h.cell.frozen' (i := 9) (by omega)
  have h1 := (h.put (i := 8) (by omega) (.slice none 0 0) { R with Al := .slice none 0 0 } (all13 rfl rfl rfl rfl rfl rfl rfl rfl rfl rfl rfl rfl rfl) rfl).put (i := 9) (by omega) (.slice none 0 0) { R with Al := .slice none 0 0, Ad := .slice none 0 0 } (all13 rfl rfl rfl rfl rfl rfl rfl rfl rfl rfl rfl rfl rfl) rfl
  have hcc : Chg w ((w.setCell ⟨g, 8, none⟩ (.slice none 0 0)).setCell ⟨g, 9, none⟩ (.slice none 0 0)) (fun k => k = g) := ((Chg.refl w (fun k => k = g)).setCell (p := ⟨g, 8, none⟩) (.inl rfl) _).setCell (p := ⟨g, 9, none⟩) (.inl rfl) _
  clear hi hz0 hz1 hz2
  go_enter Try.func19, Try.ntmps19
  go_wp2_with fail
  go_loopg [2] 288 (FxR w b0 g c R)
  case atStart => exact ⟨0, 0, none, Nat.zero_le _, rfl, rfl, h1, hcc, OwnI.nil_, hcc.size⟩
  case round =>
    clear h1 hcc k8 k9 z8 z9
    obtain ⟨k, d, A, hk, hk2, rfl, hM1, hc1, ho, hlow⟩ := hrel
    have k8 := hM1.cell.cell (i := 8) (by omega)
    rw [show sF { R with Al := .slice A k d, Ad := .slice none 0 0 } 8 = .slice A k d from rfl] at k8
    have hgr := hM1.cell.lt
    have hap : blkOf A ≠ some g := fun e => by have := (ho.2.lt e).1; omega
    by_cases hlt : k < 288
    · have hkI : (k : Int) < 288 ∧ (0 : Int) ≤ k := by omega
      have ht := fixL_take hlt
      rw [fixL_at k hlt] at ht
      have hcs : (k : Int) < 144 ∨ ((144 : Int) ≤ k ∧ (k : Int) < 256) ∨ ((144 : Int) ≤ k ∧ (256 : Int) ≤ k ∧ ¬ (k : Int) < 256 ∧ (k : Int) < 280) ∨ ((144 : Int) ≤ k ∧ (256 : Int) ≤ k ∧ ¬ (k : Int) < 256 ∧ ¬ (k : Int) < 280) := by omega
      rcases hcs with h1 | ⟨h1, h2⟩ | ⟨h1, h2, h3, h4⟩ | ⟨h1, h2, h3, h4⟩
      · rw [if_pos (by omega)] at ht
        have HT := Lib.hid ht
        clear ht
        have hoA := ho.alloc (.cells #[.int .i64 8] 3)
        go_wp2_with (at_builtin; (refine wpList_app .i64 w.heap.size 3 i0 8 rfl (.tmp 31) (.tmp 33) _ rfl Try.underlying32 Hi.out Hz0.out Hz1.out Hz2.out rfl hoA rfl (RdI.lit .i64 wr [8] 3) (by omega) (by omega) (by simp; omega) ?_)
                     intro A4 d4 w4 hown4 hg4 hat4
                     have har4 := (hM1.cell.alloc (.cells #[.int .i64 8] 3)).grown hg4 (fun e => hap e.symm)
                     have x8 := har4.cell (i := 8) (by omega)
                     have z8 := har4.frozen' (i := 8) (by omega))
        have hnew := fixS_push hM1 hc1 ho hcb hgl hlow 8 8 (by omega) { R with Al := .slice A4 (k + 1) d4, Ad := .slice none 0 0 } (all13 rfl rfl rfl rfl rfl rfl rfl rfl rfl rfl rfl rfl rfl) rfl hg4 hown4 hat4
        go_roundg (gk - 1)
        case measure => have := hk2.out; omega
        case rel => exact ⟨k + 1, d4, A4, hlt, by show gk - 1 = _; have := hk2.out; omega, by go_num, hnew.1, hnew.2.1, by rw [HT.out]; exact hnew.2.2, by have := hc1.size; have := hnew.2.1.size; omega⟩
      · rw [if_neg (by omega), if_pos (by omega)] at ht
        have HT := Lib.hid ht
        clear ht
        have hoA := ho.alloc (.cells #[.int .i64 9] 3)
        go_wp2_with (at_builtin; (refine wpList_app .i64 w.heap.size 3 i0 8 rfl (.tmp 31) (.tmp 33) _ rfl Try.underlying32 Hi.out Hz0.out Hz1.out Hz2.out rfl hoA rfl (RdI.lit .i64 wr [9] 3) (by omega) (by omega) (by simp; omega) ?_)
                     intro A4 d4 w4 hown4 hg4 hat4
                     have har4 := (hM1.cell.alloc (.cells #[.int .i64 9] 3)).grown hg4 (fun e => hap e.symm)
                     have x8 := har4.cell (i := 8) (by omega)
                     have z8 := har4.frozen' (i := 8) (by omega))
        have hnew := fixS_push hM1 hc1 ho hcb hgl hlow 9 8 (by omega) { R with Al := .slice A4 (k + 1) d4, Ad := .slice none 0 0 } (all13 rfl rfl rfl rfl rfl rfl rfl rfl rfl rfl rfl rfl rfl) rfl hg4 hown4 hat4
        go_roundg (gk - 1)
        case measure => have := hk2.out; omega
        case rel => exact ⟨k + 1, d4, A4, hlt, by show gk - 1 = _; have := hk2.out; omega, by go_num, hnew.1, hnew.2.1, by rw [HT.out]; exact hnew.2.2, by have := hc1.size; have := hnew.2.1.size; omega⟩
      · rw [if_neg (by omega), if_neg (by omega), if_pos (by omega)] at ht
        have HT := Lib.hid ht
        clear ht
        have hoA := ho.alloc (.cells #[.int .i64 7] 3)
        go_wp2_with (at_builtin; (refine wpList_app .i64 w.heap.size 3 i0 8 rfl (.tmp 31) (.tmp 33) _ rfl Try.underlying32 Hi.out Hz0.out Hz1.out Hz2.out rfl hoA rfl (RdI.lit .i64 wr [7] 3) (by omega) (by omega) (by simp; omega) ?_)
                     intro A4 d4 w4 hown4 hg4 hat4
                     have har4 := (hM1.cell.alloc (.cells #[.int .i64 7] 3)).grown hg4 (fun e => hap e.symm)
                     have x8 := har4.cell (i := 8) (by omega)
                     have z8 := har4.frozen' (i := 8) (by omega))
        have hnew := fixS_push hM1 hc1 ho hcb hgl hlow 7 8 (by omega) { R with Al := .slice A4 (k + 1) d4, Ad := .slice none 0 0 } (all13 rfl rfl rfl rfl rfl rfl rfl rfl rfl rfl rfl rfl rfl) rfl hg4 hown4 hat4
        go_roundg (gk - 1)
        case measure => have := hk2.out; omega
        case rel => exact ⟨k + 1, d4, A4, hlt, by show gk - 1 = _; have := hk2.out; omega, by go_num, hnew.1, hnew.2.1, by rw [HT.out]; exact hnew.2.2, by have := hc1.size; have := hnew.2.1.size; omega⟩
      · rw [if_neg (by omega), if_neg (by omega), if_neg (by omega)] at ht
        have HT := Lib.hid ht
        clear ht
        have hoA := ho.alloc (.cells #[.int .i64 8] 3)
        go_wp2_with (at_builtin; (refine wpList_app .i64 w.heap.size 3 i0 8 rfl (.tmp 31) (.tmp 33) _ rfl Try.underlying32 Hi.out Hz0.out Hz1.out Hz2.out rfl hoA rfl (RdI.lit .i64 wr [8] 3) (by omega) (by omega) (by simp; omega) ?_)
                     intro A4 d4 w4 hown4 hg4 hat4
                     have har4 := (hM1.cell.alloc (.cells #[.int .i64 8] 3)).grown hg4 (fun e => hap e.symm)
                     have x8 := har4.cell (i := 8) (by omega)
                     have z8 := har4.frozen' (i := 8) (by omega))
        have hnew := fixS_push hM1 hc1 ho hcb hgl hlow 8 8 (by omega) { R with Al := .slice A4 (k + 1) d4, Ad := .slice none 0 0 } (all13 rfl rfl rfl rfl rfl rfl rfl rfl rfl rfl rfl rfl rfl) rfl hg4 hown4 hat4
        go_roundg (gk - 1)
        case measure => have := hk2.out; omega
        case rel => exact ⟨k + 1, d4, A4, hlt, by show gk - 1 = _; have := hk2.out; omega, by go_num, hnew.1, hnew.2.1, by rw [HT.out]; exact hnew.2.2, by have := hc1.size; have := hnew.2.1.size; omega⟩
    · obtain rfl : k = 288 := by omega
      have hL : fixL.take 288 = fixL := List.take_of_length_le (by rw [fixL_len]; omega)
      rw [hL] at ho
      have HL := Lib.hid hL
      clear hL hap hk2
      go_wp2_with fail
      go_loopg [4] 32 (FxS w b0 g c R A d)
      case atStart => exact ⟨0, 0, none, Nat.zero_le _, rfl, rfl, hM1, hc1, OwnI.nil_, ho, fun q hq => by simp [blkOf] at hq, hlow⟩
      case round =>
        clear k8 hM1 hc1 ho hlow hgr
        obtain ⟨k, d3, A3, hk, hk2, rfl, hM1, hc1, ho, ho0, hsep, hlow⟩ := hrel
        have k9 := hM1.cell.cell (i := 9) (by omega)
        rw [show sF { R with Al := .slice A 288 d, Ad := .slice A3 k d3 } 9 = .slice A3 k d3 from rfl] at k9
        have hgr := hM1.cell.lt
        have hap : blkOf A3 ≠ some g := fun e => by have := (ho.2.lt e).1; omega
        by_cases hlt : k < 32
        · have hkI : (k : Int) < 32 ∧ (0 : Int) ≤ k := by omega
          have HT := Lib.hid (fixD_take hlt)
          have hoA := ho.alloc (.cells #[.int .i64 5] 3)
          go_wp2_with (at_builtin; (refine wpList_app .i64 w.heap.size 3 i0 8 rfl (.tmp 45) (.tmp 46) _ rfl Try.underlying32 Hi.out Hz0.out Hz1.out Hz2.out rfl hoA rfl (RdI.lit .i64 wr [5] 3) (by omega) (by omega) (by simp; omega) ?_)
                       intro A4 d4 w4 hown4 hg4 hat4
                       have har4 := (hM1.cell.alloc (.cells #[.int .i64 5] 3)).grown hg4 (fun e => hap e.symm)
                       have x9 := har4.cell (i := 9) (by omega)
                       have z9 := har4.frozen' (i := 9) (by omega))
          have hnew := fixS_push hM1 hc1 ho hcb hgl hlow 5 9 (by omega) { R with Al := .slice A 288 d, Ad := .slice A4 (k + 1) d4 } (all13 rfl rfl rfl rfl rfl rfl rfl rfl rfl rfl rfl rfl rfl) rfl hg4 hown4 hat4
          have ho0' : OwnI .i64 (w4.setCell ⟨g, 9, none⟩ (.slice A4 (k + 1) d4)) w.heap.size 3 A 288 d fixL := ((ho0.alloc (.cells #[.int .i64 5] 3)).grown hg4 (by
            by_cases e : blkOf A = none
            · exact .inr e
            · refine .inl fun e2 => ?_
              cases hA3 : blkOf A3 with
              | none => rw [hA3] at e2; exact e e2
              | some q => exact hsep q hA3 (by rw [e2, hA3]))).far (p := ⟨g, 9, none⟩) (fun (e : blkOf A = some g) => by have := (ho0.2.lt e).1; omega) _
          have hsep' : ∀ q, blkOf A4 = some q → blkOf A ≠ some q := fun q hq e => by
            rcases hat4 with h4 | h4
            · exact hsep q (by rw [← h4]; exact hq) e
            · rw [h4] at hq; injection hq with hq; have := (ho0.2.lt e).2; simp at hq; omega
          go_roundg (gk - 1)
          case measure => have := hk2.out; omega
          case rel => exact ⟨k + 1, d4, A4, hlt, by show gk - 1 = _; have := hk2.out; omega, by go_num, hnew.1, hnew.2.1, by rw [HT.out]; exact hnew.2.2, ho0', hsep', by have := hc1.size; have := hnew.2.1.size; omega⟩
        · obtain rfl : k = 32 := by omega
          have hD : Hid (fixD.take 32 = fixD) := List.take_of_length_le (by rw [fixD_len]; omega)
          go_wp2_with fail
          go_end0
          exact ⟨A, d, A3, d3, rfl, hM1, hc1, ho0, by rw [hD.out] at ho; exact ho⟩
end
end Go.Proofs.Ytlgkiookobedcaa
namespace Go.Proofs.Ytlgkiookobedcaa
open Go.RowKit
set_option linter.unusedVariables false
structure RLive (R : RM) (s : IS) : Prop where
  x : R.X.drop R.at_ = s.x
  le : R.at_ ≤ R.X.length
  out : R.out = s.all
  kinds : R.kinds = s.kinds
  stops : R.stops = s.stops
  toks : R.toks = s.toks
  most : R.most = ((s.all.length + s.rem : Nat) : Int)
  E : R.E = 0
  bit : Bit R.X
  len : R.X.length ≤ 100000000000
  even : R.X.length % 8 = 0
  small : s.all.length + s.rem ≤ 1000000000
  tk : R.toks.length ≤ R.at_
structure Keep (R R' : RM) : Prop where
  X : R'.X = R.X
  kinds : R'.kinds = R.kinds
  stops : R'.stops = R.stops
  le : R.at_ ≤ R'.at_
structure REnd (R : RM) (t : IS) (v : Int) : Prop where
  out : R.out = t.all
  kinds : R.kinds = t.kinds
  stops : R.stops = t.stops
  toks : R.toks = t.toks
  E : R.E = v
def BlkPost (w0 : World) (c0 : Nat → Nat) (b0 g : Nat) (R : RM) (s : IS) (e : Ending) (w' : World) : Prop :=
  (∃ R' t x', e = .returned (.bool true) ∧ RefS w0 c0 w' b0 g R' ∧ IS.Steps s t ∧ t.step = (({ t with x := x' } : IS).over, 0) ∧ RLive R' { t with x := x' } ∧ Keep R R') ∨
  (∃ R' t v, e = .returned (.bool false) ∧ RefS w0 c0 w' b0 g R' ∧ s.fin = (t, v) ∧ v ≠ 8 ∧ REnd R' t v)
section
variable {w w' w0 : World} {b0 g : Nat} {c c0 : Nat → Nat} {R R' : RM} {s t t' : IS} {v : Int}
theorem BlkPost.bad (hs : IS.Steps s t) (h : t.step = (t', v)) (h0 : v ≠ 0) (h8 : v ≠ 8) (hR : RefS w0 c0 w' b0 g R') (hE : REnd R' t' v) : BlkPost w0 c0 b0 g R s (.returned (.bool false)) w' :=
  .inr ⟨R', t', v, rfl, hR, by rw [← hs.fin_eq, IS.fin_stop (by rw [h]; exact h0), h], h8, hE⟩
theorem BlkPost.ok {x' : List Int} (hs : IS.Steps s t) (h : t.step = (({ t with x := x' } : IS).over, 0)) (hR : RefS w0 c0 w' b0 g R') (hL : RLive R' { t with x := x' }) (hX : Keep R R') : BlkPost w0 c0 b0 g R s (.returned (.bool true)) w' :=
  .inl ⟨R', t, x', rfl, hR, hs, h, hL, hX⟩
theorem num_split (x : List Int) (h : Bit x) (a b : Nat) : num x (a + b) = num x a + 2 ^ a * num (x.drop a) b ∨ x.length < a + b := by
  by_cases hl : x.length < a + b
  · exact .inr hl
  · refine .inl ?_
    have e : x.take (a + b) = x.take a ++ (x.drop a).take b := by rw [List.take_add]
    have h1 := num_int h (a + b)
    have h2 := num_int h a
    have h3 := num_int (h.drop_ a) b
    rw [e, numI_append, ← h2, ← h3, List.length_take, Nat.min_eq_left (by omega)] at h1
    have h4 : ((2 ^ a : Nat) : Int) = 2 ^ a := by simp
    have : ((num x (a + b) : Nat) : Int) = ((num x a + 2 ^ a * num (x.drop a) b : Nat) : Int) := by rw [h1]; simp
    omega
def AlR (w0 : World) (c0 : Nat → Nat) (b0 g : Nat) (R : RM) (k : Nat) (wr : World) : Prop :=
  ∃ a, R.at_ ≤ a ∧ Hid (a ≤ (R.at_ + 7) / 8 * 8) ∧ RefS w0 c0 wr b0 g { R with at_ := a } ∧ Hid (k = (R.at_ + 7) / 8 * 8 - a)
def StR (w0 : World) (c0 : Nat → Nat) (b0 g : Nat) (R : RM) (s : IS) (n : Nat) (k : Nat) (i : Value) (wr : World) : Prop :=
  ∃ j R' t, j ≤ n ∧ i = .int .i64 j ∧ Hid (k = n - j) ∧ RefS w0 c0 wr b0 g R' ∧ IS.Steps s t ∧ RLive R' t ∧ t.Ok ∧ t.st = 2 ∧ Hid (t.left = n - j) ∧ Keep R R'
set_option maxRecDepth 100000 in
set_option maxHeartbeats 4000000 in
theorem rstored_any (h : RefS w0 c0 w b0 g R) (hO : s.Ok) (hst : s.st = 1) (hx : algn (R.X.drop R.at_) = s.x) (hL : RLive R { s with x := R.X.drop R.at_ }) :
    Calls Try.prog 18 #[.pointer (some ⟨g, 0, none⟩)] w (BlkPost w0 c0 b0 g R s) := by
  have hlen := hL.len
  have hev := hL.even
  have hle := hL.le
  obtain ⟨A, hA⟩ : ∃ A, (R.at_ + 7) / 8 * 8 = A := ⟨_, rfl⟩
  have hAle : A ≤ R.X.length := by omega
  have hxA : Hid (R.X.drop A = s.x) := by
    show _ = _
    rw [← hx]
    unfold algn
    rw [List.drop_drop, List.length_drop]
    congr 1
    omega
  have HA := Lib.hid hA
  have hal8 : Hid (∀ a, R.at_ ≤ a → a ≤ A → a % 8 = 0 → a = A) := fun a h1 h2 h3 => by omega
  have hal0 : Hid (∀ a, R.at_ ≤ a → a ≤ A → a % 8 ≠ 0 → a + 1 ≤ A) := fun a h1 h2 h3 => by omega
  have HST := Lib.hid hst
  have HEV := Lib.hid hev
  have hinit : Hid (AlR w0 c0 b0 g R (A - R.at_) w) := ⟨R.at_, Nat.le_refl _, by show _ ≤ _; omega, h, by show _ = _; omega⟩
  have hAI : (A : Int) ≤ 100000000000 := by omega
  clear hA hev hst hx h
  go_enter Try.func18, Try.ntmps18
  go_wp2_with fail
  go_loopg [] (A - R.at_) (AlR w0 c0 b0 g R)
  case atStart => exact hinit.out
  case round =>
    clear hinit
    obtain ⟨a, ha1, ha2, h, hk⟩ := hrel
    obtain ⟨-, k1, -, -, -, k5, k6, -⟩ := h.cells
    have z6 := h.cell.frozen' (i := 6) (by omega)
    have z1 := h.cell.frozen' (i := 1) (by omega)
    have ha3 := ha2.out
    rw [HA.out] at ha3
    have haI : (0 : Int) ≤ a ∧ (a : Int) ≤ 100000000000 := by omega
    by_cases hm : a % 8 = 0
    · have haA := hal8.out a ha1 ha3 hm
      subst haA
      have hmI : (a : Int) % 8 = 0 := by omega
      have hmI2 : ¬ (0 : Int) < (a : Int) % 8 := by omega
      obtain ⟨e, he⟩ : ∃ e, a + 32 = e := ⟨_, rfl⟩
      have hw : IntKind.i64.wrap ((a : Int) + 32) = (e : Int) := by rw [IntWalk.i64_in _ (by omega)]; omega
      have hnb : R.nb = R.X.length := h.nb
      have hlx : s.x.length = R.X.length - a := by rw [← hxA.out, List.length_drop]
      have hsize : Hid (s.step = s.size) := by show _ = _; unfold IS.step; rw [if_neg (by have := HST.out; omega), if_pos HST.out]
      unfold IS.size at hsize
      have HE := Lib.hid he
      by_cases hlk : (R.nb : Int) < (e : Int)
      · have hs := Lib.hid (hsize.out.trans (if_pos (by omega)))
        have h1 := h.drew.put (i := 1) (by omega) (.int .i64 5) { R with at_ := a, E := 5 } (all13 rfl rfl rfl rfl rfl rfl rfl rfl rfl rfl rfl rfl rfl) rfl
        clear he hnb hlx hsize hk hm ha1 ha2 ha3
        go_wp2_with fail
        go_region
        all_goals
          go_wp2_with fail
          go_ret
          exact BlkPost.bad (.refl s) hs.out (by decide) (by decide) h1 ⟨hL.out, hL.kinds, hL.stops, hL.toks, rfl⟩
      · have hsz := Lib.hid (hsize.out.trans (if_neg (by omega)))
        have hb := hL.bit
        have ht1 := fun W (hW : RefS w0 c0 W b0 g { R with at_ := a }) => rtake_ok hW 16 (by omega) (Nat.le_trans hlen (by omega)) hb (by show a + 16 ≤ R.X.length; omega) _ rfl
        have ht2 := fun W (hW : RefS w0 c0 W b0 g { R with at_ := a + 16 }) => rtake_ok hW 16 (by omega) (Nat.le_trans hlen (by omega)) hb (by show a + 16 + 16 ≤ R.X.length; omega) _ rfl
        have hsp := (num_split (R.X.drop a) (hb.drop_ a) 16 16).resolve_right (by rw [List.length_drop]; omega)
        have hl1 := num_lt (hb.drop_ a) 16
        have hl2 := num_lt ((hb.drop_ a).drop_ 16) 16
        rw [List.drop_drop] at hsp hl2
        obtain ⟨N, hN⟩ : ∃ N, num (R.X.drop a) 16 = N := ⟨_, rfl⟩
        obtain ⟨P, hP⟩ : ∃ P, num (R.X.drop (a + 16)) 16 = P := ⟨_, rfl⟩
        have ht1 : ∀ W, RefS w0 c0 W b0 g { R with at_ := a } → Calls Try.prog 17 #[.pointer (some ⟨g, 0, none⟩), .int .i64 16] W fun e w' => e = .returned (.tuple #[.int .i64 (N : Nat), .bool true]) ∧ RefS w0 c0 w' b0 g { R with at_ := a + 16 } := fun W hW => by rw [← hN]; exact ht1 W hW
        have ht2 : ∀ W, RefS w0 c0 W b0 g { R with at_ := a + 16 } → Calls Try.prog 17 #[.pointer (some ⟨g, 0, none⟩), .int .i64 16] W fun e w' => e = .returned (.tuple #[.int .i64 (P : Nat), .bool true]) ∧ RefS w0 c0 w' b0 g { R with at_ := a + 32 } := fun W hW => by rw [← hP]; exact ht2 W hW
        rw [hN, hP] at hsp
        have hsp : num (R.X.drop a) 32 = N + 2 ^ 16 * P := hsp
        rw [hN] at hl1
        rw [hP] at hl2
        have HT1 := Lib.hid ht1
        have HT2 := Lib.hid ht2
        have hNP : Hid (num s.x 32 % 65536 = N ∧ num s.x 32 / 65536 = P) := by
          rw [← hxA.out]
          have : (2 : Nat) ^ 16 = 65536 := by decide
          rw [this] at hsp hl1 hl2
          refine ⟨?_, ?_⟩ <;> omega
        have hNI : (0 : Int) ≤ N ∧ (N : Int) < 65536 ∧ (0 : Int) ≤ P ∧ (P : Int) < 65536 := by
          have : (2 : Nat) ^ 16 = 65536 := by decide
          omega
        have hxd : Hid (R.X.drop (a + 32) = s.x.drop 32) := by show _ = _; rw [← hxA.out, List.drop_drop]
        rw [hNP.out.1, hNP.out.2] at hsz
        clear ht1 ht2 hsp hl1 hl2 hN hP he hnb hlx hsize hk hm
        by_cases hsum : N + P = 65535
        · have hst1 := Lib.hid (hsz.out.trans (if_pos hsum))
          have hsI : (N : Int) + (P : Int) = 65535 := by omega
          have hsf : (((N : Int) + (P : Int)) != 65535) = false := by simp; omega
          have HA1 := Lib.hid ha1
          have hini : Hid (∀ W, RefS w0 c0 W b0 g { R with at_ := a + 32 } → StR w0 c0 b0 g R s N N (.int .i64 0) W) := fun W hW => by
            have hO1 := hO.step (.inl (by rw [hst1.out]))
            rw [hst1.out] at hO1
            have hS1 := IS.Steps.one (s := s) (by rw [hst1.out])
            rw [hst1.out] at hS1
            exact ⟨0, _, _, Nat.zero_le _, rfl, rfl, hW, hS1, ⟨hxd.out, by show a + 32 ≤ R.X.length; have h8 := HE.out; have h9 : R.nb = R.X.length := h.nb; omega, hL.out, hL.kinds, hL.stops, hL.toks, hL.most, hL.E, hL.bit, hL.len, hL.even, hL.small, Nat.le_trans hL.tk (by show R.at_ ≤ a + 32; have := HA1.out; omega)⟩, hO1, rfl, rfl, ⟨rfl, rfl, rfl, by show R.at_ ≤ a + 32; have := HA1.out; omega⟩⟩
          clear hsum hsz ha1 ha2 ha3 hsI
          go_wp2_with fail
          go_region
          all_goals
            go_wp2_with fail
            refine (HT1.out _ h.drew).mono ?_
            rintro e w5 ⟨rfl, h5⟩
            go_wp2_with fail
            refine (HT2.out _ h5).mono ?_
            rintro e w6 ⟨rfl, h6⟩
            go_wp2_with fail
            clear hsf
            go_loopg [7] N (StR w0 c0 b0 g R s N)
            case atStart => exact hini.out _ h6
            case round =>
              clear hini h5 h6 h
              obtain ⟨j, R1, t, hj, rfl, hk, h, hs1, hL1, hO1, hst2, hlf, hRX⟩ := hrel
              have HS2 := Lib.hid hst2
              have HRX := Lib.hid hRX
              have hstep : Hid (t.step = t.stored) := by show _ = _; unfold IS.step; rw [if_neg (by omega), if_neg (by omega), if_pos hst2]
              unfold IS.stored at hstep
              clear hst2 hRX
              by_cases hjN : (j : Int) < (N : Int)
              · have hl0 : t.left ≠ 0 := by have := hlf.out; omega
                have hst3 := Lib.hid (hstep.out.trans (if_neg hl0))
                have hlen1 := hL1.len
                have hle1 := hL1.le
                have hxl : t.x.length = R1.X.length - R1.at_ := by rw [← hL1.x, List.length_drop]
                by_cases hx8 : t.x.length < 8
                · have hs4 := Lib.hid (hst3.out.trans (if_pos hx8))
                  have ht := Lib.hid (rtake_not h 8 (by omega) (by omega) hle1 (by omega))
                  clear hx8 hxl hlen1 hle1 hl0 hstep hst3
                  go_wp2_with fail
                  refine ht.out.mono ?_
                  rintro e w7 ⟨rfl, h7⟩
                  go_wp2_with fail
                  go_ret
                  exact BlkPost.bad hs1 hs4.out (by decide) (by decide) h7 ⟨hL1.out, hL1.kinds, hL1.stops, hL1.toks, rfl⟩
                · have hs4 := Lib.hid (hst3.out.trans (if_neg hx8))
                  unfold IS.emit at hs4
                  have hvl := num_lt (hL1.bit.drop_ R1.at_) 8
                  rw [hL1.x] at hvl
                  obtain ⟨V, hV⟩ : ∃ V : Int, ((num t.x 8 : Nat) : Int) = V := ⟨_, rfl⟩
                  have ht := Lib.hid (rtake_ok h 8 (by omega) (by omega) hL1.bit (by omega) V (by rw [hL1.x, hV]))
                  rw [hV] at hs4
                  have hVb : 0 ≤ V ∧ V < 256 := by have : (2 : Nat) ^ 8 = 256 := (by decide); omega
                  have hx8d : Hid (R1.X.drop (R1.at_ + 8) = t.x.drop 8) := by show _ = _; rw [← hL1.x, List.drop_drop]
                  have hat8 : Hid (R1.at_ + 8 ≤ R1.X.length) := by show _ ≤ _; omega
                  have hmost := hL1.most
                  have hol : R1.out.length = t.all.length := by rw [hL1.out]
                  have hsm := hL1.small
                  by_cases hr : t.rem = 0
                  · have he : ∀ W, RefS w0 c0 W b0 g { R1 with at_ := R1.at_ + 8 } → Calls Try.prog 33 #[.pointer (some ⟨g, 0, none⟩), .int .u8 V] W fun e w' => e = .returned (.bool false) ∧ RefS w0 c0 w' b0 g { R1 with at_ := R1.at_ + 8, E := 6 } := fun W hW => remit_not hW V (by show R1.most ≤ _; rw [hmost]; show _ ≤ ((R1.out.length : Nat) : Int); omega)
                    have HE2 := Lib.hid he
                    have hs5 : Hid (t.step = ({ t with x := t.x.drop 8, left := t.left - 1, all := t.all ++ [V].take t.rem, rem := t.rem - [V].length }, 6)) := hs4.out.trans (by rw [if_pos (by simp; omega)])
                    have hr0 := Lib.hid hr
                    clear he hr hV hvl hx8 hxl hlen1 hle1 hl0 hmost hol hsm hstep hst3
                    go_wp2_with fail
                    refine ht.out.mono ?_
                    rintro e w7 ⟨rfl, h7⟩
                    go_wp2_with fail
                    refine (HE2.out _ h7).mono ?_
                    rintro e w8 ⟨rfl, h8⟩
                    go_wp2_with fail
                    go_ret
                    exact BlkPost.bad hs1 hs5.out (by decide) (by decide) h8 ⟨by rw [hr0.out]; show R1.out = t.all ++ [V].take 0; rw [hL1.out]; simp, hL1.kinds, hL1.stops, hL1.toks, rfl⟩
                  · have he : ∀ W, RefS w0 c0 W b0 g { R1 with at_ := R1.at_ + 8 } → Calls Try.prog 33 #[.pointer (some ⟨g, 0, none⟩), .int .u8 V] W (EmPost w0 c0 b0 g { R1 with at_ := R1.at_ + 8 } V) := fun W hW => remit_ok hW V (by show ((R1.out.length : Nat) : Int) < R1.most; rw [hmost]; omega) (by show R1.out.length ≤ _; omega)
                    have HE2 := Lib.hid he
                    have hs5 : Hid (t.step = ({ t with x := t.x.drop 8, left := t.left - 1, all := t.all ++ [V].take t.rem, rem := t.rem - [V].length }, 0)) := hs4.out.trans (by rw [if_neg (by simp; omega)])
                    have hrt : Hid ([V].take t.rem = [V]) := List.take_of_length_le (by simp; omega)
                    have hr0 := Lib.hid hr
                    have HSM := Lib.hid hsm
                    have HLF0 := Lib.hid hl0
                    clear he hr hV hvl hx8 hxl hlen1 hle1 hl0 hmost hol hsm hstep hst3
                    go_wp2_with fail
                    refine ht.out.mono ?_
                    rintro e w7 ⟨rfl, h7⟩
                    go_wp2_with fail
                    refine (HE2.out _ h7).mono ?_
                    rintro e w8 ⟨A8, n8, c8, rfl, h8⟩
                    go_wp2_with fail
                    go_roundg (gk - 1)
                    case measure => have := hk.out; omega
                    case rel =>
                      have hO2 := hO1.step (.inl (by rw [hs5.out]))
                      have hS2 := IS.Steps.tail hs1 (by rw [hs5.out])
                      rw [hs5.out] at hO2 hS2
                      refine ⟨j + 1, _, _, by omega, by go_num, by show gk - 1 = _; have := hk.out; omega, h8, hS2, ⟨hx8d.out, hat8.out, ?_, hL1.kinds, hL1.stops, hL1.toks, ?_, hL1.E, hL1.bit, hL1.len, hL1.even, ?_, Nat.le_trans hL1.tk (by show R1.at_ ≤ R1.at_ + 8; omega)⟩, hO2, HS2.out, by show t.left - 1 = _; have := hlf.out; omega, ⟨HRX.out.X, HRX.out.kinds, HRX.out.stops, Nat.le_trans HRX.out.le (by show R1.at_ ≤ R1.at_ + 8; omega)⟩⟩
                      · show R1.out ++ [V] = t.all ++ [V].take t.rem
                        rw [hrt.out, hL1.out]
                      · show R1.most = (((t.all ++ [V].take t.rem).length + (t.rem - [V].length) : Nat) : Int)
                        rw [hL1.most, hrt.out, List.length_append]
                        have := hr0.out
                        simp; omega
                      · show (t.all ++ [V].take t.rem).length + (t.rem - [V].length) ≤ _
                        rw [hrt.out, List.length_append]
                        have := hr0.out; have := HSM.out
                        simp; omega
              · have hl0 : t.left = 0 := by have := hlf.out; omega
                have hst3 := Lib.hid (hstep.out.trans (if_pos hl0))
                clear hl0 hstep
                go_wp2_with fail
                go_ret
                exact BlkPost.ok (x' := t.x) hs1 hst3.out h hL1 HRX.out
        · have hst1 := Lib.hid (hsz.out.trans (if_neg hsum))
          have hsf : (((N : Int) + (P : Int)) == 65535) = false := by simp; omega
          clear hsum hsz ha1 ha2 ha3
          go_wp2_with fail
          go_region
          all_goals
            go_wp2_with fail
            refine (HT1.out _ h.drew).mono ?_
            rintro e w5 ⟨rfl, h5⟩
            go_wp2_with fail
            refine (HT2.out _ h5).mono ?_
            rintro e w6 ⟨rfl, h6⟩
            obtain ⟨-, j1, -⟩ := h6.cells
            have y1 := h6.cell.frozen' (i := 1) (by omega)
            have h7 := h6.put (i := 1) (by omega) (.int .i64 2) { R with at_ := a + 32, E := 2 } (all13 rfl rfl rfl rfl rfl rfl rfl rfl rfl rfl rfl rfl rfl) rfl
            go_wp2_with fail
            go_ret
            exact BlkPost.bad (.refl s) hst1.out (by decide) (by decide) h7 ⟨hL.out, hL.kinds, hL.stops, hL.toks, rfl⟩
    · have hmI : (0 : Int) < (a : Int) % 8 := by omega
      have h2 := h.put (i := 6) (by omega) (.int .i64 ((a : Int) + 1)) { R with at_ := a + 1 } (all13 rfl rfl rfl rfl rfl rfl rfl rfl rfl rfl rfl rfl rfl) rfl
      have hnx := Lib.hid (hal0.out a ha1 ha3 hm)
      clear hm
      go_wp2_with fail
      go_roundg (gk - 1)
      case measure => have := hk.out; have := HA.out; have := hnx.out; omega
      case rel => exact ⟨a + 1, by omega, by show _ ≤ _; rw [HA.out]; exact hnx.out, h2, by show gk - 1 = _; have := hk.out; omega⟩
end
end Go.Proofs.Ytlgkiookobedcaa
