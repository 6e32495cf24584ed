/-
  Several texts in one (written by pack2.py): Wtr, WtrB, WtrC.
-/
import Derived.Test.YtlgkiookobedcaaProg
import Derived.Test.YtlgkiookobedcaaPk3
import Derived.Test.YtlgkiookobedcaaPk5
import Derived.Test.YtlgkiookobedcaaStep
import Derived.Deep.RegionLaw
namespace Go.Proofs.Ytlgkiookobedcaa
open Go.RowKit
set_option linter.unusedVariables false
theorem bbyte_info : (Try.prog.info? 5).map (fun i => (i.zero, i.size, i.bytes)) = some (some (.int .u8 0), 1, 1) := by kernel_rfl
def wf (A : Option Addr) (n c : Nat) (t : List Int) : Nat → Value
  | 0 => .slice A n c
  | 1 => .int .u64 (numI t)
  | _ => .int .i64 t.length
structure Wtr (w : World) (b0 g : Nat) (A : Option Addr) (n c : Nat) (L : List Int) : Prop where
  cell : Ar w g 3 (wf A n c (rest L))
  lo : b0 ≤ g
  own : OwnI .u8 w b0 5 A n c (byt L)
  apart : blkOf A ≠ some g
  bit : Bit L
theorem Wtr.n_eq {w : World} {b0 g n c : Nat} {A : Option Addr} {L : List Int} (h : Wtr w b0 g A n c L) : n = L.length / 8 := by rw [h.own.1, byt_length]
theorem Wtr.chg {w w' : World} {b0 g n c : Nat} {A : Option Addr} {L : List Int} {S : Nat → Prop} (h : Wtr w b0 g A n c L) (hc : Chg w w' S) (hS : ∀ k, foot A g k → ¬ S k) : Wtr w' b0 g A n c L :=
  ⟨hc.ar h.cell (hS g (.inl rfl)), h.lo, hc.ownI h.own fun q hq => hS q (.inr hq), h.apart, h.bit⟩
theorem Wtr.keeps {w w' : World} {b0 g n c : Nat} {A : Option Addr} {L : List Int} (h : Wtr w b0 g A n c L) (hb : Below w.heap.size w w') : Wtr w' b0 g A n c L :=
  h.chg (S := fun _ => False) (Chg.of_below hb) fun _ _ => id
theorem Wtr.foot_lo {w : World} {b0 g n c : Nat} {A : Option Addr} {L : List Int} (h : Wtr w b0 g A n c L) {k : Nat} (hk : foot A g k) : b0 ≤ k ∧ k < w.heap.size := by
  rcases hk with rfl | hk
  · exact ⟨h.lo, h.cell.lt⟩
  · exact h.own.2.lt hk
theorem wtrNew_any (w : World) : Calls Try.prog 23 #[] w fun e w' => ∃ g, e = .returned (.pointer (some ⟨g, 0, none⟩)) ∧ Wtr w' w.heap.size g none 0 0 [] ∧ Below w.heap.size w w' := by
  go_enter Try.func23, Try.ntmps23
  go_wp2
  go_ret
  have hA : Ar (w.alloc (.cells #[.slice none 0 0, .int .u64 0, .int .i64 0] 80)) w.heap.size 3 (wf none 0 0 (rest [])) :=
    Ar.new w _ _ rfl fun i hi => by
      obtain rfl | rfl | rfl : i = 0 ∨ i = 1 ∨ i = 2 := by omega
      all_goals rfl
  exact ⟨w.heap.size, rfl, ⟨hA, Nat.le_refl _, OwnI.nil_, by simp [blkOf], Bit.nil_⟩, (Below.refl _ _).alloc (Nat.le_refl _) _⟩
def WtrPost (w : World) (b0 g : Nat) (A : Option Addr) (L : List Int) (e : Ending) (w' : World) : Prop :=
  ∃ A' n' c', e = .returned (.tuple #[]) ∧ Wtr w' b0 g A' n' c' L ∧ Chg w w' (foot A g) ∧ (∀ k, blkOf A' = some k → blkOf A = some k ∨ w.heap.size ≤ k)
def PutRel (w : World) (b0 g : Nat) (A : Option Addr) (L s : List Int) (k : Nat) (wr : World) : Prop :=
  ∃ (j m d : Nat) (A' : Option Addr), j + k = s.length / 8 ∧ Ar wr g 3 (wf A' m d (s.drop (8 * j))) ∧ OwnI .u8 wr b0 5 A' m d (byt L ++ byt (s.take (8 * j))) ∧ blkOf A' ≠ some g ∧ Chg w wr (foot A g) ∧ (∀ q, blkOf A' = some q → blkOf A = some q ∨ w.heap.size ≤ q)
theorem PutRel.next {w wr w5 wa : World} {b0 g j k m d c5 K : Nat} {A A' A5 : Option Addr} {L s : List Int} {Z : Int} (hsb : Bit s) (hj : j + k = s.length / 8) (hk : 0 < k) (hZ : numI (s.drop (8 * j)) = Z) (hK : (s.drop (8 * j)).length = K)
    (hap : blkOf A' ≠ some g) (hgw : g < wr.heap.size) (hc : Chg w wr (foot A g)) (hca : Chg w wa (foot A g)) (hsz : wr.heap.size ≤ wa.heap.size) (hA' : ∀ q, blkOf A' = some q → blkOf A = some q ∨ w.heap.size ≤ q)
    (hown5 : OwnI .u8 w5 b0 5 A5 (m + 1) c5 (byt L ++ byt (s.take (8 * j)) ++ [Z % 256])) (hg5 : wa.grownBy w5 (blkOf A')) (hat5 : blkOf A5 = blkOf A' ∨ blkOf A5 = some wa.heap.size) (har5 : Ar w5 g 3 (wf A' m d (s.drop (8 * j)))) :
    PutRel w b0 g A L s (k - 1) (((w5.setCell ⟨g, 0, none⟩ (.slice A5 (m + 1) c5)).setCell ⟨g, 1, none⟩ (.int .u64 (Z / 256))).setCell ⟨g, 2, none⟩ (.int .i64 ((K : Int) - 8))) := by
  have hap5 : blkOf A5 ≠ some g := by
    rcases hat5 with e | e
    · rw [e]; exact hap
    · rw [e]; intro h; injection h; omega
  have hA5 : ∀ q, blkOf A5 = some q → blkOf A = some q ∨ w.heap.size ≤ q := by
    intro q hq
    rcases hat5 with e | e
    · exact hA' q (e ▸ hq)
    · rw [e] at hq; injection hq with hq; have := hc.size; exact .inr (by omega)
  have h8 : 8 * (j + 1) ≤ s.length := by omega
  refine ⟨j + 1, m + 1, c5, A5, by omega, ?_, ?_, hap5, ?_, hA5⟩
  · refine (((har5.set_ (i := 0) (by omega) _).set_ (i := 1) (by omega) _).set_ (i := 2) (by omega) _).congr fun i hi => ?_
    obtain rfl | rfl | rfl : i = 0 ∨ i = 1 ∨ i = 2 := by omega
    · rfl
    · show Value.int .u64 (Z / 256) = Value.int .u64 (numI (s.drop (8 * (j + 1))))
      rw [← hZ, numI_drop hsb, numI_drop hsb, show 8 * (j + 1) = 8 * j + 8 by omega, Int.pow_add, Int.ediv_ediv_of_nonneg (Int.le_of_lt (two_pos _))]
      rfl
    · show Value.int .i64 ((K : Int) - 8) = Value.int .i64 ((s.drop (8 * (j + 1))).length : Int)
      rw [List.length_drop] at hK ⊢
      congr 1
      omega
  · rw [byt_at (by omega) hsb, hZ, ← List.append_assoc]
    exact ((hown5.far (p := ⟨g, 0, none⟩) hap5 _).far (p := ⟨g, 1, none⟩) hap5 _).far (p := ⟨g, 2, none⟩) hap5 _
  · exact (((hca.grown hg5 fun q hq => (hA' q hq).imp .inr id).setCell (p := ⟨g, 0, none⟩) (.inl (.inl rfl)) _).setCell (p := ⟨g, 1, none⟩) (.inl (.inl rfl)) _).setCell (p := ⟨g, 2, none⟩) (.inl (.inl rfl)) _
theorem PutRel.end_ {w wr : World} {b0 g j m d N : Nat} {A A' : Option Addr} {L : List Int} {V : Int} (hb : Bit L) (hlo : b0 ≤ g) (hj : j = (rest L ++ ofN V N).length / 8) (har : Ar wr g 3 (wf A' m d ((rest L ++ ofN V N).drop (8 * j)))) (hown : OwnI .u8 wr b0 5 A' m d (byt L ++ byt ((rest L ++ ofN V N).take (8 * j))))
    (hap : blkOf A' ≠ some g) (hc : Chg w wr (foot A g)) (hA : ∀ q, blkOf A' = some q → blkOf A = some q ∨ w.heap.size ≤ q) : WtrPost w b0 g A (L ++ ofN V N) (.returned (.tuple #[])) wr := by
  subst hj
  rw [byt_take, ← byt_app] at hown
  rw [← rest_drop, ← rest_app] at har
  exact ⟨A', m, d, rfl, ⟨har, hlo, hown, hap, hb.app (Bit.ofN V N)⟩, hc, hA⟩
set_option maxRecDepth 100000 in
set_option maxHeartbeats 4000000 in
theorem put_ok (w : World) (b0 g n c : Nat) (A : Option Addr) (L : List Int) (hw : Wtr w b0 g A n c L) (V : Int) (N : Nat) (hV : 0 ≤ V ∧ V < 4294967296) (hN : (N : Int) ≤ 32) (hlen : L.length ≤ 4000000000000) :
    Calls Try.prog 45 #[.pointer (some ⟨g, 0, none⟩), .int .u32 V, .int .i64 N] w (WtrPost w b0 g A (L ++ ofN V N)) := by
  obtain ⟨t, ht⟩ : ∃ t, rest L = t := ⟨_, rfl⟩
  have hcell := hw.cell
  rw [ht] at hcell
  have c0 := hcell.cell (i := 0) (by omega)
  have c1 := hcell.cell (i := 1) (by omega)
  have c2 := hcell.cell (i := 2) (by omega)
  have z1 := hcell.frozen' (i := 1) (by omega)
  have z2 := hcell.frozen' (i := 2) (by omega)
  unfold wf at c0 c1 c2
  obtain ⟨X, hX⟩ : ∃ X, numI t = X := ⟨_, rfl⟩
  obtain ⟨T, hT⟩ : ∃ T : Nat, t.length = T := ⟨_, rfl⟩
  have hbt : Bit t := by rw [← ht]; exact hw.bit.rest
  have hXb := numI_bd hbt
  obtain ⟨s, hs⟩ : ∃ s, t ++ ofN V N = s := ⟨_, rfl⟩
  have hsl : s.length = T + N := by rw [← hs, List.length_append, ofN_length, hT]
  have hsb : Bit s := by rw [← hs]; exact hbt.app (Bit.ofN V N)
  have hsn : numI s = X + V % 2 ^ N * 2 ^ T := by rw [← hs, numI_append, hX, hT, numI_ofN, Int.mul_comm]
  rw [hX, hT] at hXb
  rw [hX] at c1
  rw [hT] at c2
  have hT0 : (0 : Int) ≤ N := by omega
  have hNn : ¬ (N : Int) < 0 ∧ ¬ 32 < (N : Int) := by omega
  have hTb : (T : Int) < 8 := by have := rest_length L; rw [ht, hT] at this; omega
  have hp32 : (2 : Int) ^ N ≤ 4294967296 := by have := pow_mono2 (show N ≤ 32 by omega); simpa using this
  have hp0 := two_pos N
  have hq8 : (2 : Int) ^ T ≤ 128 := by have := pow_mono2 (show T ≤ 7 by omega); simpa using this
  have hq0 := two_pos T
  have e1 : IntKind.u64.wrap (2 ^ N) = 2 ^ N := by rw [IntKind.wrap_u64]; exact Int.emod_eq_of_lt (by omega) (by omega)
  have e1b : IntKind.u64.wrap (2 ^ N - 1) = 2 ^ N - 1 := by rw [IntKind.wrap_u64]; exact Int.emod_eq_of_lt (by omega) (by omega)
  have e2 : bits .and .u64 V (2 ^ N - 1) = V % 2 ^ N := and_low hV.1 (by omega) (by omega)
  have hY0 := Int.emod_nonneg V (b := 2 ^ N) (by omega)
  have hY1 := Int.emod_lt_of_pos V hp0
  obtain ⟨Y, hY⟩ : ∃ Y, V % 2 ^ N = Y := ⟨_, rfl⟩
  rw [hY] at e2 hY0 hY1 hsn
  have hYT : 0 ≤ Y * 2 ^ T ∧ Y * 2 ^ T ≤ 4294967295 * 128 := ⟨Int.mul_nonneg hY0 (by omega), Int.mul_le_mul (by omega) hq8 (by omega) (by omega)⟩
  have e3 : IntKind.u64.wrap (Y * 2 ^ T) = Y * 2 ^ T := by rw [IntKind.wrap_u64]; exact Int.emod_eq_of_lt (by omega) (by omega)
  have e4 : bits .or .u64 X (Y * 2 ^ T) = numI s := by rw [hsn]; exact or_high hXb.1 hXb.2 hY0 (by omega)
  obtain ⟨Z, hZ⟩ : ∃ Z, numI s = Z := ⟨_, rfl⟩
  rw [hZ] at e4
  have hc1 := ((hcell.drew.set_ (i := 1) (by omega) (.int .u64 Z)).set_ (i := 2) (by omega) (.int .i64 ((T : Int) + (N : Int)))).congr (f' := wf A n c (s.drop (8 * 0))) (fun i hi => by
    obtain rfl | rfl | rfl : i = 0 ∨ i = 1 ∨ i = 2 := by omega
    · rfl
    · show Value.int .u64 Z = Value.int .u64 (numI (s.drop 0)); rw [List.drop_zero, hZ]
    · show Value.int .i64 ((T : Int) + (N : Int)) = Value.int .i64 ((s.drop 0).length : Int); rw [List.drop_zero, hsl]; simp)
  have ho1 : OwnI .u8 ((w.drew.setCell ⟨g, 1, none⟩ (.int .u64 Z)).setCell ⟨g, 2, none⟩ (.int .i64 ((T : Int) + (N : Int)))) b0 5 A n c (byt L ++ byt (s.take (8 * 0))) := by
    have : byt (s.take (8 * 0)) = [] := by rw [Nat.mul_zero, List.take_zero]; rfl
    rw [this, List.append_nil]
    exact (hw.own.drew.far (p := ⟨g, 1, none⟩) hw.apart _).far (p := ⟨g, 2, none⟩) hw.apart _
  have hg1 : Chg w ((w.drew.setCell ⟨g, 1, none⟩ (.int .u64 Z)).setCell ⟨g, 2, none⟩ (.int .i64 ((T : Int) + (N : Int)))) (foot A g) :=
    (((Chg.refl w _).drew).setCell (p := ⟨g, 1, none⟩) (.inl (.inl rfl)) _).setCell (p := ⟨g, 2, none⟩) (.inl (.inl rfl)) _
  have HE := Lib.hid hw
  obtain ⟨i0, hi, hz0, hz1, hz2⟩ := info_parts bbyte_info
  have Hi := Lib.hid hi
  have Hz0 := Lib.hid hz0
  have Hz1 := Lib.hid hz1
  have Hz2 := Lib.hid hz2
  have HS := Lib.hid hs
  have HT := Lib.hid ht
  have HSL := Lib.hid hsl
  have hbyl := byt_length L
  have HB := Lib.hid hbyl
  clear hi hz0 hz1 hz2 hs ht hX hT hsl hsn hY hZ hcell hp32 hp0 hq8 hq0 hY0 hY1 hYT hXb hw hbyl
  go_enter Try.func45, Try.ntmps45
  go_wp2
  go_region
  go_wp2
  clear e1 e1b e2 e3 e4 c0 c1 c2 z1 z2
  go_loopg [] (s.length / 8) (PutRel w b0 g A L s)
  case atStart => exact ⟨0, n, c, A, Nat.zero_add _, hc1, ho1, HE.out.apart, hg1, fun q hq => .inl hq⟩
  case round =>
    clear hc1 ho1 hg1
    obtain ⟨j, m, d, A', hj, har, hown, hap, hchg, hA'⟩ := hrel
    have c0 := har.cell (i := 0) (by omega)
    have c1 := har.cell (i := 1) (by omega)
    have c2 := har.cell (i := 2) (by omega)
    have z0 := har.frozen' (i := 0) (by omega)
    have z1 := har.frozen' (i := 1) (by omega)
    have z2 := har.frozen' (i := 2) (by omega)
    unfold wf at c0 c1 c2
    obtain ⟨Z, hZ⟩ : ∃ Z, numI (s.drop (8 * j)) = Z := ⟨_, rfl⟩
    obtain ⟨K, hK⟩ : ∃ K : Nat, (s.drop (8 * j)).length = K := ⟨_, rfl⟩
    have hZb := numI_bd (hsb.drop_ (8 * j))
    rw [hK, hZ] at hZb
    have hKl := hK
    rw [List.length_drop] at hKl
    rw [hZ] at c1
    rw [hK] at c2
    have hKb : (K : Int) ≤ 40 ∧ (0 : Int) ≤ K := by have := HSL.out; omega
    have hZb64 : Z < 18446744073709551616 := by
      have := pow_mono2 (show K ≤ 40 by omega)
      have h2 : (2 : Int) ^ 40 = 1099511627776 := rfl
      omega
    by_cases hk8 : 8 ≤ (K : Int)
    · have hm5 : m ≤ 600000000000 := by
        have h1 := hown.1
        rw [List.length_append, byt_length, byt_length, List.length_take] at h1
        have := HSL.out
        omega
      have hb0 : b0 ≤ wr.heap.size + 1 := by have := hchg.size; have := HE.out.lo; have := HE.out.cell.lt; omega
      have hby := byt_at (l := s) (j := j) (by omega) hsb
      rw [hZ] at hby
      have HBY := Lib.hid hby
      have HJ := Lib.hid hj
      have HKL := Lib.hid hKl
      have HZ := Lib.hid hZ
      have HKK := Lib.hid hK
      have hkI : (8 : Int) ≤ K := hk8
      clear hby hj hKl hZ hK
      have hw8 : IntKind.u8.wrap Z = Z % 256 := IntKind.wrap_u8 Z
      have hara := (har.alloc (.cells #[.int .u8 (Z % 256)] 5)).drew
      have c0a : (wr.alloc (.cells #[.int .u8 (Z % 256)] 5)).drew.cell? ⟨g, 0, none⟩ = some (.slice A' m d) := hara.cell (i := 0) (by omega)
      go_wp2
      go_region_law
        (first | ((refine step_app .u8 b0 5 i0 1 rfl _ _ _ rfl Try.underlying22 Hi.out Hz0.out Hz1.out Hz2.out rfl ((hown.alloc _).drew) rfl (RdI.lit .u8 wr [Z % 256] 5) (by omega) (by omega) (by simp; omega) ?_)
                  intro A5 c5 w5 hown5 hg5 hat5
                  have har5 := hara.grown hg5 (fun e => hap e.symm)
                  have c05 : w5.cell? ⟨g, 0, none⟩ = some (.slice A' m d) := har5.cell (i := 0) (by omega)
                  have c15 : w5.cell? ⟨g, 1, none⟩ = some (.int .u64 Z) := by rw [← HZ.out]; exact har5.cell (i := 1) (by omega)
                  have c25 : w5.cell? ⟨g, 2, none⟩ = some (.int .i64 K) := by rw [← HKK.out]; exact har5.cell (i := 2) (by omega)
                  have z05 := har5.frozen' (i := 0) (by omega)
                  have z15 := har5.frozen' (i := 1) (by omega)
                  have z25 := har5.frozen' (i := 2) (by omega)))
      all_goals
        go_wp2
        go_roundg (gk - 1)
        case measure => have := HJ.out; have := HKL.out; omega
        case rel => exact PutRel.next hsb HJ.out (by have := HJ.out; have := HKL.out; omega) HZ.out HKK.out hap har.lt hchg ((hchg.alloc _).drew) (by simp) hA' hown5 hg5 hat5 har5
    · have hjj : j = s.length / 8 := by omega
      have HJJ := Lib.hid hjj
      clear hjj
      go_wp2
      go_end0
      have hs := HS.out
      have ht := HT.out
      subst hs
      subst ht
      exact PutRel.end_ HE.out.bit HE.out.lo HJJ.out har hown hap hchg hA'
end Go.Proofs.Ytlgkiookobedcaa
namespace Go.Proofs.Ytlgkiookobedcaa
open Go.RowKit
set_option linter.unusedVariables false
theorem rest_none {L : List Int} (h : L.length % 8 = 0) : rest L = [] := List.eq_nil_of_length_eq_zero (by rw [rest_length, h])
theorem evn_same {L : List Int} (h : L.length % 8 = 0) : evn L = L := by unfold evn; rw [h]; simp
theorem evn_put {L : List Int} (h : L.length % 8 ≠ 0) : evn L = L ++ ofN 0 (8 - L.length % 8) := by unfold evn; rw [ofN_zero, Nat.mod_eq_of_lt (by omega)]
set_option maxHeartbeats 1600000 in
theorem wtrAlign_any (w : World) (b0 g n c : Nat) (A : Option Addr) (L : List Int) (hw : Wtr w b0 g A n c L) (hlen : L.length ≤ 4000000000000) :
    Calls Try.prog 31 #[.pointer (some ⟨g, 0, none⟩)] w (WtrPost w b0 g A (evn L)) := by
  have c2 := hw.cell.cell (i := 2) (by omega)
  unfold wf at c2
  rw [rest_length] at c2
  by_cases h : L.length % 8 = 0
  · rw [h] at c2
    have hev : WtrPost w b0 g A (evn L) (.returned (.tuple #[])) w := by
      rw [evn_same h]
      exact ⟨A, n, c, rfl, hw, Chg.refl _ _, fun k hk => .inl hk⟩
    clear h
    go_enter Try.func31, Try.ntmps31
    go_wp2
    go_end0
    exact hev
  · have hp := evn_put h
    obtain ⟨T, hT⟩ : ∃ T : Nat, L.length % 8 = T := ⟨_, rfl⟩
    rw [hT] at c2 hp h
    have hTb : (T : Int) < 8 ∧ 0 < (T : Int) := by omega
    obtain ⟨M, hM⟩ : ∃ M : Nat, 8 - T = M := ⟨_, rfl⟩
    have hMI : (8 : Int) - (T : Int) = (M : Int) := by omega
    rw [hM] at hp
    have HP := Lib.hid hp
    have hM32 : (M : Int) ≤ 32 := by omega
    clear hp hT hM h
    go_enter Try.func31, Try.ntmps31
    go_wp2_with fail
    refine (put_ok _ _ _ _ _ _ _ hw 0 M (by omega) hM32 hlen).mono ?_
    rintro e w' ⟨A', n', c', rfl, r⟩
    go_wp2
    go_end0
    rw [HP.out]
    exact ⟨A', n', c', rfl, r⟩
theorem wtrTake_any (w : World) (b0 g n c : Nat) (A : Option Addr) (L : List Int) (hw : Wtr w b0 g A n c L) :
    Calls Try.prog 30 #[.pointer (some ⟨g, 0, none⟩)] w fun e w' => e = .returned (.slice A n c) ∧ OwnI .u8 w' b0 5 A n c (byt L) ∧ Wtr w' b0 g none 0 0 (rest L) ∧ Chg w w' (fun k => k = g) := by
  have c0 := hw.cell.cell (i := 0) (by omega)
  have z0 := hw.cell.frozen' (i := 0) (by omega)
  unfold wf at c0
  go_enter Try.func30, Try.ntmps30
  go_wp2
  go_ret
  have hrl : (rest L).length < 8 := by rw [rest_length]; omega
  refine ⟨rfl, hw.own.far (p := ⟨g, 0, none⟩) hw.apart _, ⟨(hw.cell.set_ (i := 0) (by omega) _).congr fun i hi => ?_, hw.lo, ?_, by simp [blkOf], hw.bit.rest⟩, (Chg.refl w (fun k => k = g)).setCell (p := ⟨g, 0, none⟩) (.inl rfl) _⟩
  · rw [rest_small hrl]
    obtain rfl | rfl | rfl : i = 0 ∨ i = 1 ∨ i = 2 := by omega
    all_goals rfl
  · rw [byt_small hrl]
    exact OwnI.nil_
end Go.Proofs.Ytlgkiookobedcaa
namespace Go.Proofs.Ytlgkiookobedcaa
open Go.RowKit
set_option linter.unusedVariables false
set_option maxHeartbeats 1600000 in
theorem wtrWrite_any (w : World) (b0 g n c B m d : Nat) (A C : Option Addr) (L b : List Int) (hw : Wtr w b0 g A n c L) (hr : RdI .u8 w B C m b) (hB : B ≤ w.heap.size) (hsep : 0 < m → ∀ ad, C = some ad → ¬ foot A g ad.block) (hby : ∀ x ∈ b, 0 ≤ x ∧ x < 256) (hlen : L.length ≤ 4000000000000) (hm : (m : Int) ≤ 400000000000) :
    Calls Try.prog 60 #[.pointer (some ⟨g, 0, none⟩), .slice C m d] w (WtrPost w b0 g A (evn L ++ bts b)) := by
  obtain ⟨i0, hi, hz0, hz1, hz2⟩ := info_parts bbyte_info
  have Hi := Lib.hid hi
  have Hz0 := Lib.hid hz0
  have Hz1 := Lib.hid hz1
  have Hz2 := Lib.hid hz2
  clear hi hz0 hz1 hz2
  go_enter Try.func60, Try.ntmps60
  go_wp2_with fail
  refine (wtrAlign_any _ _ _ _ _ _ _ hw hlen).mono ?_
  rintro e w1 ⟨A1, n1, c1, rfl, hw1, hg1, hA1⟩
  have hr1 := hg1.rdI hr hB hsep
  have hcell := hw1.cell
  have k0 := hcell.cell (i := 0) (by omega)
  have z0 := hcell.frozen' (i := 0) (by omega)
  unfold wf at k0
  have hn1 : n1 ≤ 500000000001 := by have := hw1.n_eq; rw [evn_length] at this; omega
  have hb0 : b0 ≤ w1.heap.size := by have := hw1.lo; have := hw1.cell.lt; omega
  go_wp2_with (at_builtin; (refine wpList_app .u8 b0 5 i0 1 rfl (.tmp 12) (.tmp 13) _ rfl Try.underlying22 Hi.out Hz0.out Hz1.out Hz2.out rfl hw1.own rfl hr1 (by omega) (by omega) hb0 ?_)
               intro A2 c2 w2 hown hg hat
               have har2 := hcell.grown hg (fun e => hw1.apart e.symm)
               have k02 := har2.cell (i := 0) (by omega)
               have z02 := har2.frozen' (i := 0) (by omega))
  go_end0
  have hap2 : blkOf A2 ≠ some g := by
    rcases hat with e | e
    · rw [e]; exact hw1.apart
    · rw [e]; intro h; injection h with h; have := hcell.lt; omega
  have hby2 : byt (evn L ++ bts b) = byt (evn L) ++ b := by rw [byt_even (evn_even L), byt_bts hby]
  have hre : rest (evn L ++ bts b) = rest (evn L) := by rw [rest_even (evn_even L), rest_bts, rest_none (evn_even L)]
  refine ⟨A2, n1 + m, c2, rfl, ⟨(har2.set_ (i := 0) (by omega) _).congr fun i hi => ?_, hw1.lo, ?_, hap2, hw.bit.evn.app (Bit.bts b)⟩, ?_, ?_⟩
  · rw [hre]
    obtain rfl | rfl | rfl : i = 0 ∨ i = 1 ∨ i = 2 := by omega
    all_goals rfl
  · rw [hby2]
    exact hown.far (p := ⟨g, 0, none⟩) hap2 _
  · exact (hg1.grown hg fun k hk => (hA1 k hk).imp .inr id).setCell (p := ⟨g, 0, none⟩) (.inl (.inl rfl)) _
  · intro k hk
    rcases hat with e | e
    · exact hA1 k (e ▸ hk)
    · rw [e] at hk; injection hk with hk; have := hg1.size; exact .inr (by omega)
end Go.Proofs.Ytlgkiookobedcaa
