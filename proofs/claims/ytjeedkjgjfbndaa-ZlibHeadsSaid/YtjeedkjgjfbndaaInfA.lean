/-
  The walks of the decoder's emit, bit, over, extra.
-/
import Derived.Test.YtjeedkjgjfbndaaProg
import Derived.Test.YtjeedkjgjfbndaaInfM
import Derived.Test.YtjeedkjgjfbndaaStep
import Derived.Deep.RegionLaw
import Derived.Handy
namespace Go.Proofs.Ytjeedkjgjfbndaa
open Go.RowKit
set_option linter.unusedVariables false
section
variable {w w' w0 : World} {b0 g : Nat} {c0 : Nat → Nat} {M : DM} {S : DS}
theorem InfS.cells (h : InfS w0 c0 w b0 g M S) : w.cell? ⟨g, 0, none⟩ = some (.pointer (some ⟨M.gi, 0, none⟩)) ∧ w.cell? ⟨g, 1, none⟩ = some (.pointer (some ⟨M.gw, 0, none⟩)) ∧ w.cell? ⟨g, 2, none⟩ = some (.int .i64 S.most) ∧ w.cell? ⟨g, 3, none⟩ = some (.slice M.Ao M.no M.co) ∧
    w.cell? ⟨g, 4, none⟩ = some (.int .i64 S.err) ∧ w.cell? ⟨g, 5, none⟩ = some (.int .i64 S.st) ∧ w.cell? ⟨g, 6, none⟩ = some (.bool S.last) ∧ w.cell? ⟨g, 7, none⟩ = some (.int .i64 S.left) ∧ w.cell? ⟨g, 8, none⟩ = some (.int .i64 S.c0) ∧ w.cell? ⟨g, 9, none⟩ = some (.int .i64 S.c1) ∧
    w.cell? ⟨g, 10, none⟩ = some (.int .i64 S.c2) ∧ w.cell? ⟨g, 11, none⟩ = some (.slice M.Al M.nl M.cl) ∧ w.cell? ⟨g, 12, none⟩ = some (.pointer M.hp) ∧ w.cell? ⟨g, 13, none⟩ = some (.pointer M.lp) ∧ w.cell? ⟨g, 14, none⟩ = some (.pointer M.dp) ∧ w.cell? ⟨g, 15, none⟩ = some (.int .i64 S.len) := by
  have k := h.cell
  exact ⟨k.cell (i := 0) (by omega), k.cell (i := 1) (by omega), k.cell (i := 2) (by omega), k.cell (i := 3) (by omega), k.cell (i := 4) (by omega), k.cell (i := 5) (by omega), k.cell (i := 6) (by omega), k.cell (i := 7) (by omega),
    k.cell (i := 8) (by omega), k.cell (i := 9) (by omega), k.cell (i := 10) (by omega), k.cell (i := 11) (by omega), k.cell (i := 12) (by omega), k.cell (i := 13) (by omega), k.cell (i := 14) (by omega), k.cell (i := 15) (by omega)⟩
def EmitPost (w0 : World) (c0 : Nat → Nat) (b0 g : Nat) (M : DM) (S : DS) (b : List Int) (e : Ending) (w' : World) : Prop :=
  ∃ A' n' c', e = .returned (.int .i64 (if S.most < b.length then 6 else 0)) ∧ InfS w0 c0 w' b0 g { M with Ao := A', no := n', co := c', out := M.out ++ b.take S.most } { S with most := S.most - b.length }
set_option maxRecDepth 100000 in
set_option maxHeartbeats 4000000 in
theorem demit_any (h : InfS w0 c0 w b0 g M S) (Bd m d : Nat) (C : Option Addr) (b : List Int) (hr : RdI .u8 w Bd C m b) (hB : Bd ≤ w.heap.size) (hmd : m ≤ d) (hm : m ≤ 100000) (hlo : M.out.length ≤ 10000000000) (hmost : (S.most : Int) ≤ 4611686018427387904) :
    Calls Try.prog 40 #[.pointer (some ⟨g, 0, none⟩), .slice C m d] w (EmitPost w0 c0 b0 g M S b) := by
  obtain ⟨-, -, k2, k3, -⟩ := h.cells
  have z2 := h.cell.frozen' (i := 2) (by omega)
  have z3 := h.cell.frozen' (i := 3) (by omega)
  have hgl := h.cell.lt
  have hown := h.out
  have hap := h.apart.1
  have hb0 := h.lo
  obtain ⟨i0, hi, hz0, hz1, hz2⟩ := info_parts rbyte_info
  obtain ⟨mo, hmo⟩ : ∃ mo, S.most = mo := ⟨_, rfl⟩
  rw [hmo] at hmost k2
  have hbm := hr.1
  obtain ⟨k, hk⟩ : ∃ k, k = min m mo := ⟨_, rfl⟩
  have hbt : Hid (b.take mo = b.take k) := by
    show _ = _
    by_cases h1 : m ≤ mo
    · rw [List.take_of_length_le (by omega), List.take_of_length_le (by omega)]
    · rw [show k = mo by omega]
  have hsl := run_slice_to (P := Try.prog) 26 5 Try.underlying26 hi hz1 C m d (j := k) (by omega)
  have hrk := hr.pre (j := k) (by omega)
  have hno := hown.1
  have hnk : M.no + k ≤ 1000000000000 := by omega
  have Hi := Lib.hid hi
  have Hz0 := Lib.hid hz0
  have Hz1 := Lib.hid hz1
  have Hz2 := Lib.hid hz2
  have HMO := Lib.hid hmo
  have HBM := Lib.hid hbm
  have hfin : Hid (∀ A2 n2 c2 w2 (v : Int), v = ((mo - m : Nat) : Int) → n2 = M.no + k → OwnI .u8 w2 b0 5 A2 n2 c2 (M.out ++ b.take k) → w.drew.grownBy w2 (blkOf M.Ao) → (blkOf A2 = blkOf M.Ao ∨ blkOf A2 = some w.heap.size) → InfS w0 c0 ((w2.setCell ⟨g, 3, none⟩ (.slice A2 n2 c2)).setCell ⟨g, 2, none⟩ (.int .i64 v)) b0 g { M with Ao := A2, no := n2, co := c2, out := M.out ++ b.take S.most } { S with most := S.most - b.length }) := fun A2 n2 c2 w2 v hv hn2 ho2 hg2 hat2 => by
    subst hv
    have har := (h.cell.drew.grown hg2 (fun e => hap e.symm))
    have hA2 : blkOf A2 ≠ some g := by
      rcases hat2 with e | e
      · rw [e]; exact hap
      · rw [e]; intro e2; injection e2 with e2; omega
    rw [hmo, hbt.out, ← hbm]
    refine h.outs ?_ ?_ ?_ ?_
    · exact (((((Chg.refl w _).drew).grown hg2 (fun q hq => .inl (.inr hq))).setCell (p := ⟨g, 3, none⟩) (.inl (.inl rfl)) _).setCell (p := ⟨g, 2, none⟩) (.inl (.inl rfl)) _)
    · exact ((har.set_ (i := 3) (by omega) _).set_ (i := 2) (by omega) _).congr (all16 rfl rfl rfl rfl rfl rfl rfl rfl rfl rfl rfl rfl rfl rfl rfl rfl)
    · exact (ho2.far (p := ⟨g, 3, none⟩) hA2 _).far (p := ⟨g, 2, none⟩) hA2 _
    · intro q hq
      rcases hat2 with e | e
      · exact .inl (e ▸ hq)
      · rw [e] at hq; injection hq with hq; exact .inr (by omega)
  have hres : Hid ((m : Int) ≤ mo → EmitPost w0 c0 b0 g M S b = fun e w' => ∃ A' n' c', e = .returned (.int .i64 0) ∧ InfS w0 c0 w' b0 g { M with Ao := A', no := n', co := c', out := M.out ++ b.take S.most } { S with most := S.most - b.length }) := fun hle => by
    unfold EmitPost
    rw [if_neg (by omega)]
  have hres2 : Hid ((mo : Int) < m → EmitPost w0 c0 b0 g M S b = fun e w' => ∃ A' n' c', e = .returned (.int .i64 6) ∧ InfS w0 c0 w' b0 g { M with Ao := A', no := n', co := c', out := M.out ++ b.take S.most } { S with most := S.most - b.length }) := fun hle => by
    unfold EmitPost
    rw [if_pos (by omega)]
  have hcs : ((m : Int) < (mo : Int) ∧ k = m) ∨ ((mo : Int) < (m : Int) ∧ k = mo) ∨ (mo = m ∧ k = m) := by omega
  have hmI : (0 : Int) ≤ m ∧ (m : Int) ≤ 100000 ∧ (0 : Int) ≤ mo := by omega
  have hcl := h.cell
  clear hi hz0 hz1 hz2 hmo hbm hk hno hbt h
  rcases hcs with ⟨h1, rfl⟩ | ⟨h1, rfl⟩ | ⟨rfl, rfl⟩
  · rw [hres.out (by omega)]
    clear hres hres2
    go_enter Try.func40, Try.ntmps40
    go_wp2_with fail
    go_region_law
      ((refine step_app .u8 b0 5 i0 1 rfl (.tmp 17) (.tmp 20) _ rfl Try.underlying26 Hi.out Hz0.out Hz1.out Hz2.out rfl hown rfl hrk hnk (by omega) hb0 ?_)
       intro A5 c5 w5 hown5 hg5 hat5
       have har5 := hcl.drew.grown hg5 (fun e => hap e.symm)
       have k52 : w5.cell? ⟨g, 2, none⟩ = some (.int .i64 S.most) := har5.cell (i := 2) (by omega)
       rw [HMO.out] at k52
       have k53 : w5.cell? ⟨g, 3, none⟩ = some (.slice M.Ao M.no M.co) := har5.cell (i := 3) (by omega)
       have z52 := har5.frozen' (i := 2) (by omega)
       have z53 := har5.frozen' (i := 3) (by omega))
    all_goals
      go_wp2
      go_ret
      exact ⟨A5, _, c5, rfl, hfin.out _ _ _ _ _ (by omega) rfl hown5 hg5 hat5⟩
  · rw [hres2.out (by omega)]
    clear hres hres2
    go_enter Try.func40, Try.ntmps40
    go_wp2_with fail
    go_region_law
      ((refine step_app .u8 b0 5 i0 1 rfl (.tmp 17) (.tmp 20) _ rfl Try.underlying26 Hi.out Hz0.out Hz1.out Hz2.out rfl hown rfl hrk hnk (by omega) hb0 ?_)
       intro A5 c5 w5 hown5 hg5 hat5
       have har5 := hcl.drew.grown hg5 (fun e => hap e.symm)
       have k52 : w5.cell? ⟨g, 2, none⟩ = some (.int .i64 S.most) := har5.cell (i := 2) (by omega)
       rw [HMO.out] at k52
       have k53 : w5.cell? ⟨g, 3, none⟩ = some (.slice M.Ao M.no M.co) := har5.cell (i := 3) (by omega)
       have z52 := har5.frozen' (i := 2) (by omega)
       have z53 := har5.frozen' (i := 3) (by omega))
    all_goals
      go_wp2
      go_ret
      exact ⟨A5, _, c5, rfl, hfin.out _ _ _ _ _ (by omega) rfl hown5 hg5 hat5⟩
  · rw [hres.out (by omega)]
    clear hres hres2
    go_enter Try.func40, Try.ntmps40
    go_wp2_with fail
    go_region_law
      ((refine step_app .u8 b0 5 i0 1 rfl (.tmp 17) (.tmp 20) _ rfl Try.underlying26 Hi.out Hz0.out Hz1.out Hz2.out rfl hown rfl hrk hnk (by omega) hb0 ?_)
       intro A5 c5 w5 hown5 hg5 hat5
       have har5 := hcl.drew.grown hg5 (fun e => hap e.symm)
       have k52 : w5.cell? ⟨g, 2, none⟩ = some (.int .i64 S.most) := har5.cell (i := 2) (by omega)
       rw [HMO.out] at k52
       have k53 : w5.cell? ⟨g, 3, none⟩ = some (.slice M.Ao M.no M.co) := har5.cell (i := 3) (by omega)
       have z52 := har5.frozen' (i := 2) (by omega)
       have z53 := har5.frozen' (i := 3) (by omega))
    all_goals
      go_wp2
      go_ret
      exact ⟨A5, _, c5, rfl, hfin.out _ _ _ _ _ (by omega) rfl hown5 hg5 hat5⟩
theorem rb_algn {B : List Int} {a : Nat} (h : a ≤ 8 * B.length) : rb B ((a + 7) / 8 * 8) = algn (rb B a) := by
  unfold algn
  rw [rb_drop, rb_length]
  congr 1
  omega
theorem dbit_not (h : InfS w0 c0 w b0 g M S) (N : Int) (hN : N < 0 ∨ 32 < N ∨ ((rb M.B M.a).length : Int) < N) :
    Calls Try.prog 34 #[.pointer (some ⟨g, 0, none⟩), .int .i64 N] w fun e w' => e = .returned (.tuple #[.int .i64 0, .bool false]) ∧ InfS w0 c0 w' b0 g M S := by
  obtain ⟨k0, -⟩ := h.cells
  have hb := h.big
  go_enter Try.func34, Try.ntmps34
  go_wp2_with fail
  refine (get_not _ _ _ _ _ _ _ _ h.rdr (by omega) N hN).mono ?_
  rintro e w1 ⟨rfl, q, rfl⟩
  go_wp2
  go_ret2
  exact ⟨rfl, h.drewN q⟩
theorem dbit_ok (h : InfS w0 c0 w b0 g M S) (N : Nat) (hN : (N : Int) ≤ 31) (hl : N ≤ (rb M.B M.a).length) :
    Calls Try.prog 34 #[.pointer (some ⟨g, 0, none⟩), .int .i64 N] w fun e w' => e = .returned (.tuple #[.int .i64 ((num (rb M.B M.a) N : Nat) : Int), .bool true]) ∧ InfS w0 c0 w' b0 g { M with a := M.a + N } S := by
  obtain ⟨k0, -⟩ := h.cells
  have hb := h.big
  have hnum := num_int (Bit.rb M.B M.a) N
  have hlt := num_lt (Bit.rb M.B M.a) N
  have hp : 2 ^ N ≤ 2 ^ 31 := Nat.pow_le_pow_right (by omega) (by omega)
  obtain ⟨V, hV⟩ : ∃ V, num (rb M.B M.a) N = V := ⟨_, rfl⟩
  rw [hV] at hnum hlt ⊢
  have hVb : (0 : Int) ≤ V ∧ (V : Int) < 2147483648 := by omega
  have HN := Lib.hid hnum
  clear hnum hlt hp hV
  go_enter Try.func34, Try.ntmps34
  go_wp2_with fail
  refine (get_ok _ _ _ _ _ _ _ _ h.rdr (by omega) N (by omega) hl).mono ?_
  rintro e w1 ⟨rfl, hr, hc⟩
  rw [← HN.out]
  go_wp2
  go_ret2
  exact ⟨rfl, h.moved hc hr⟩
theorem dover_any (h : InfS w0 c0 w b0 g M S) :
    Calls Try.prog 38 #[.pointer (some ⟨g, 0, none⟩)] w fun e w' => e = .returned (.tuple #[]) ∧ InfS w0 c0 w' b0 g (if S.last then { M with a := (M.a + 7) / 8 * 8 } else M) { S with st := if S.last then 8 else 0 } := by
  obtain ⟨k0, -, -, -, -, k5, k6, -⟩ := h.cells
  have z5 := h.cell.frozen' (i := 5) (by omega)
  have hb := h.big
  have h1 := h.put (i := 5) (by omega) (.int .i64 0) { S with st := 0 } (all16 rfl rfl rfl rfl rfl rfl rfl rfl rfl rfl rfl rfl rfl rfl rfl rfl)
  have hne := h.apart.2.2.1
  cases hlast : S.last with
  | false =>
    rw [hlast] at k6
    go_enter Try.func38, Try.ntmps38
    go_wp2_with fail
    go_end0
    rw [hlast] at h1
    exact ⟨rfl, h1⟩
  | true =>
    rw [hlast] at k6
    obtain ⟨j0, -⟩ := h1.cells
    clear h
    go_enter Try.func38, Try.ntmps38
    go_wp2_with fail
    refine (rdrAlign_any _ _ _ _ _ _ _ _ h1.rdr (by omega)).mono ?_
    rintro e w1 ⟨rfl, hr, hc⟩
    have h2 := h1.moved hc hr
    have y5 := h2.cell.frozen' (i := 5) (by omega)
    obtain ⟨-, -, -, -, -, q5, -⟩ := h2.cells
    have h3 := h2.put (i := 5) (by omega) (.int .i64 8) { S with st := 8 } (all16 rfl rfl rfl rfl rfl rfl rfl rfl rfl rfl rfl rfl rfl rfl rfl rfl)
    go_wp2_with fail
    go_end0
    rw [hlast] at h3
    exact ⟨rfl, h3⟩
end
end Go.Proofs.Ytjeedkjgjfbndaa
