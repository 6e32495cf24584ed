/-
  Several texts in one (written by pack2.py): SrtM, SrtN, SrtO.
-/
import Derived.Test.YtlgkiookobedcaaProg
import Derived.Test.YtlgkiookobedcaaPk1
import Derived.Test.YtlgkiookobedcaaPk3
import Derived.Deep.RegionHeld3
import Derived.Deep.RegionLaw
import Derived.Deep.CutBlock
import Derived.Deep.DeepCutAuto
import Derived.BigRegion
namespace Go.Proofs.Ytlgkiookobedcaa
open Go.RowKit
set_option linter.unusedVariables false
def sv (v : Option Addr × Nat × Nat) : Value := .slice v.1 v.2.1 v.2.2
def dF (D : List El) (j : Nat) : Value := if j % 2 = 0 then .int .i64 (el D (j / 2)).1 else sv (el D (j / 2)).2
theorem dF_even (D : List El) {i j : Nat} (h : j = i * 2) : dF D j = .int .i64 (el D i).1 := by subst h; unfold dF; rw [if_pos (by omega), show i * 2 / 2 = i by omega]
theorem dF_odd (D : List El) {i j : Nat} (h : j = i * 2 + 1) : dF D j = sv (el D i).2 := by subst h; unfold dF; rw [if_neg (by omega), show (i * 2 + 1) / 2 = i by omega]
def cmpF : Value := .func (.func 89) #[] #[]
structure Dt (w0 : World) (g n : Nat) (D : List El) (w : World) : Prop where
  len : D.length = n
  chg : Chg w0 w (fun k => k = g)
  ar : Ar w g (n * 2) (dF D)
section
variable {w0 w w' : World} {g n : Nat} {D : List El}
theorem Dt.lt (h : Dt w0 g n D w) : g < w.heap.size := h.ar.lt
theorem Dt.alloc (h : Dt w0 g n D w) (o : Obj) : Dt w0 g n D (w.alloc o) := ⟨h.len, h.chg.alloc o, h.ar.alloc o⟩
theorem Dt.drewN (h : Dt w0 g n D w) (q : Nat) : Dt w0 g n D (w.drewN q) := ⟨h.len, h.chg.drewN q, h.ar.drewN q⟩
theorem Dt.drew (h : Dt w0 g n D w) : Dt w0 g n D w.drew := ⟨h.len, h.chg.drew, h.ar.drew⟩
theorem Dt.keeps (h : Dt w0 g n D w) (hb : Below w.heap.size w w') : Dt w0 g n D w' :=
  ⟨h.len, h.chg.trans (Chg.of_below (S := fun _ => False) hb) fun k hk => hk.elim, h.ar.keeps hb⟩
theorem Dt.c0 (h : Dt w0 g n D w) {i : Nat} (hi : i < n) : w.cell? ⟨g, i * 2, none⟩ = some (.int .i64 (el D i).1) := by rw [← dF_even D rfl]; exact h.ar.cell (by omega)
theorem Dt.c1 (h : Dt w0 g n D w) {i : Nat} (hi : i < n) : w.cell? ⟨g, i * 2 + 1, none⟩ = some (sv (el D i).2) := by rw [← dF_odd D rfl]; exact h.ar.cell (by omega)
theorem Dt.z (h : Dt w0 g n D w) {i : Nat} (hi : i < n * 2) : w.frozen? ⟨g, i, none⟩ = false := h.ar.frozen' hi
theorem Dt.set_ (h : Dt w0 g n D w) {j : Nat} (hj : j < n * 2) (v : Value) (D' : List El) (hl : D'.length = n) (f : Nat → Value) (ha : Ar w g (n * 2) f) : Chg w0 (w.setCell ⟨g, j, none⟩ v) (fun k => k = g) ∧ Ar (w.setCell ⟨g, j, none⟩ v) g (n * 2) (upd f j v) :=
  ⟨h.chg.setCell (p := ⟨g, j, none⟩) (.inl rfl) v, ha.set_ hj v⟩
theorem Dt.stores (h : Dt w0 g n D w) {p q : Nat} (hp : p < n) (hq : q < n) (v0 v1 v2 : Value) :
    w.frozen? ⟨g, p * 2, none⟩ = false ∧ (w.setCell ⟨g, p * 2, none⟩ v0).cell? ⟨g, p * 2 + 1, none⟩ = some (upd (dF D) (p * 2) v0 (p * 2 + 1)) ∧ (w.setCell ⟨g, p * 2, none⟩ v0).frozen? ⟨g, p * 2 + 1, none⟩ = false ∧
    ((w.setCell ⟨g, p * 2, none⟩ v0).setCell ⟨g, p * 2 + 1, none⟩ v1).cell? ⟨g, q * 2, none⟩ = some (upd (upd (dF D) (p * 2) v0) (p * 2 + 1) v1 (q * 2)) ∧ ((w.setCell ⟨g, p * 2, none⟩ v0).setCell ⟨g, p * 2 + 1, none⟩ v1).frozen? ⟨g, q * 2, none⟩ = false ∧
    (((w.setCell ⟨g, p * 2, none⟩ v0).setCell ⟨g, p * 2 + 1, none⟩ v1).setCell ⟨g, q * 2, none⟩ v2).cell? ⟨g, q * 2 + 1, none⟩ = some (upd (upd (upd (dF D) (p * 2) v0) (p * 2 + 1) v1) (q * 2) v2 (q * 2 + 1)) ∧ (((w.setCell ⟨g, p * 2, none⟩ v0).setCell ⟨g, p * 2 + 1, none⟩ v1).setCell ⟨g, q * 2, none⟩ v2).frozen? ⟨g, q * 2 + 1, none⟩ = false := by
  have r0 := h.ar
  have r1 := r0.set_ (i := p * 2) (by omega) v0
  have r2 := r1.set_ (i := p * 2 + 1) (by omega) v1
  have r3 := r2.set_ (i := q * 2) (by omega) v2
  exact ⟨r0.frozen' (by omega), r1.cell (by omega), r1.frozen' (by omega), r2.cell (by omega), r2.frozen' (by omega), r3.cell (by omega), r3.frozen' (by omega)⟩
theorem Dt.swp (h : Dt w0 g n D w) {p q : Nat} (hp : p < n) (hq : q < n) (hpq : p ≠ q) :
    Dt w0 g n (Go.Proofs.Ytlgkiookobedcaa.swp D p q) ((((w.setCell ⟨g, p * 2, none⟩ (.int .i64 (el D q).1)).setCell ⟨g, p * 2 + 1, none⟩ (sv (el D q).2)).setCell ⟨g, q * 2, none⟩ (.int .i64 (el D p).1)).setCell ⟨g, q * 2 + 1, none⟩ (sv (el D p).2)) := by
  refine ⟨swp_length.trans h.len, (((h.chg.setCell (p := ⟨g, p * 2, none⟩) (.inl rfl) _).setCell (p := ⟨g, p * 2 + 1, none⟩) (.inl rfl) _).setCell (p := ⟨g, q * 2, none⟩) (.inl rfl) _).setCell (p := ⟨g, q * 2 + 1, none⟩) (.inl rfl) _, ?_⟩
  refine ((((h.ar.set_ (i := p * 2) (by omega) _).set_ (i := p * 2 + 1) (by omega) _).set_ (i := q * 2) (by omega) _).set_ (i := q * 2 + 1) (by omega) _).congr fun j hj => ?_
  have hl := h.len
  have e : ∀ i, i < n → el (Go.Proofs.Ytlgkiookobedcaa.swp D p q) i = if i = p then el D q else if i = q then el D p else el D i := fun i hi => by
    unfold Go.Proofs.Ytlgkiookobedcaa.swp
    have hs : ∀ (E : List El) (a : Nat) (v : El), a < E.length → el (E.set a v) i = if i = a then v else el E i := fun E a v ha => by
      unfold el
      rw [List.getD_eq_getElem?_getD, List.getD_eq_getElem?_getD, List.getElem?_set]
      by_cases h : a = i
      · subst h; rw [if_pos rfl, if_pos ha, if_pos rfl]; rfl
      · rw [if_neg h, if_neg (fun e => h e.symm)]
    rw [hs _ _ _ (by rw [List.length_set]; omega), hs _ _ _ (by omega)]
    by_cases h1 : i = q
    · rw [if_pos h1, if_neg (by omega), if_pos h1]
    · rw [if_neg h1, if_neg h1]
  unfold upd
  have hj2 : j / 2 < n := by omega
  by_cases hev : j % 2 = 0
  · have hjj : j = j / 2 * 2 := by omega
    rw [dF_even (Go.Proofs.Ytlgkiookobedcaa.swp D p q) hjj, e _ hj2]
    rw [if_neg (by omega)]
    by_cases h1 : j = q * 2
    · rw [if_pos h1, if_neg (by omega), if_pos (by omega)]
    · rw [if_neg h1, if_neg (by omega)]
      by_cases h2 : j = p * 2
      · rw [if_pos h2, if_pos (by omega)]
      · rw [if_neg h2, if_neg (by omega), if_neg (by omega), dF_even _ hjj]
  · have hjj : j = j / 2 * 2 + 1 := by omega
    rw [dF_odd (Go.Proofs.Ytlgkiookobedcaa.swp D p q) hjj, e _ hj2]
    by_cases h1 : j = q * 2 + 1
    · rw [if_pos h1, if_neg (by omega), if_pos (by omega)]
    · rw [if_neg h1, if_neg (by omega)]
      by_cases h2 : j = p * 2 + 1
      · rw [if_pos h2, if_pos (by omega)]
      · rw [if_neg h2, if_neg (by omega), if_neg (by omega), if_neg (by omega), dF_odd _ hjj]
end
def CmpPost (w : World) (x y : Int) (e : Ending) (w' : World) : Prop := e = .returned (.int .i64 (x - y)) ∧ Below w.heap.size w w'
theorem cmp_any (w : World) (x y : Int) (u v : Value) (hx : 0 ≤ x ∧ x ≤ 4294967296) (hy : 0 ≤ y ∧ y ≤ 4294967296) :
    Calls Try.prog 89 #[.agg #[.int .i64 x, u], .agg #[.int .i64 y, v]] w (CmpPost w x y) := by
  go_enter Try.func89, Try.ntmps89
  go_wp2
  go_ret
  exact ⟨rfl, ((Below.refl _ w).alloc (Nat.le_refl _) _).alloc (by simp) _⟩
theorem cmp_dt {w0 w : World} {g n : Nat} {D : List El} (h : Dt w0 g n D w) {x y d : Int} (u v : Value) (H : Hid (x - y = d ∧ (0 ≤ x ∧ x ≤ 4294967296) ∧ (0 ≤ y ∧ y ≤ 4294967296))) :
    Calls Try.prog 89 #[.agg #[.int .i64 x, u], .agg #[.int .i64 y, v]] w fun e w' => e = .returned (.int .i64 d) ∧ Dt w0 g n D w' := by
  refine (cmp_any w x y u v H.out.2.1 H.out.2.2).mono ?_
  rintro e w' ⟨rfl, hb⟩
  exact ⟨by rw [H.out.1], h.keeps hb⟩
def TwoS (w0 : World) (g n : Nat) (D : List El) (p q : Nat) (yw xw : Int) (yA xA : Option Addr) (yn yc xn xc : Nat) (w' : World) : Prop :=
  w'.cell? ⟨g, p * 2, none⟩ = some (.int .i64 yw) ∧ w'.cell? ⟨g, p * 2 + 1, none⟩ = some (.slice yA yn yc) ∧ w'.cell? ⟨g, q * 2, none⟩ = some (.int .i64 xw) ∧ w'.cell? ⟨g, q * 2 + 1, none⟩ = some (.slice xA xn xc) ∧ Dt w0 g n D w'
theorem TwoS.of {w0 w : World} {g n : Nat} {D : List El} {p q : Nat} {yw xw : Int} {yA xA : Option Addr} {yn yc xn xc : Nat} (H : Hid (p < n ∧ q < n ∧ el D p = (yw, yA, yn, yc) ∧ el D q = (xw, xA, xn, xc))) (h : Dt w0 g n D w) : TwoS w0 g n D p q yw xw yA xA yn yc xn xc w := by
  obtain ⟨h1, h2, h3, h4⟩ := H.out
  refine ⟨?_, ?_, ?_, ?_, h⟩
  · have := h.c0 h1; rwa [h3] at this
  · have := h.c1 h1; rwa [h3] at this
  · have := h.c0 h2; rwa [h4] at this
  · have := h.c1 h2; rwa [h4] at this
def Sm (D : List El) : Prop := ∀ p ∈ D, 0 ≤ p.1 ∧ p.1 ≤ 4294967296
def InsR (w0 : World) (g n : Nat) (X Y U0 : List El) (b : Nat) (k : Nat) (v8 : Value) (wr : World) : Prop :=
  ∃ U V D, v8 = .int .i64 ((X.length + U.length : Nat) : Int) ∧ Hid (D = X ++ (U ++ (V ++ Y))) ∧ Dt w0 g n D wr ∧ SrtE U ∧ 0 < U.length ∧ Hid ((U ++ V).Perm U0) ∧ Hid (k = V.length) ∧ X.length + U.length + V.length = b ∧ Sm D ∧ Hid (Sep U V ∧ Asc V)
def InsI (w0 : World) (g n : Nat) (X Y V U : List El) (x : El) (k : Nat) (v9 : Value) (wr : World) : Prop :=
  ∃ U1 U2 D, v9 = .int .i64 ((X.length + U1.length : Nat) : Int) ∧ Hid (D = X ++ (U1 ++ x :: (U2 ++ (V ++ Y)))) ∧ Dt w0 g n D wr ∧ Hid (U1 ++ U2 = U) ∧ Hid (∀ q ∈ U2, LeE x q) ∧ Hid (k = U1.length) ∧ Sm D
def SortPost (w0 : World) (g n : Nat) (X U0 Y : List El) (e : Ending) (w' : World) : Prop := ∃ U, e = .returned (.tuple #[]) ∧ Dt w0 g n (X ++ (U ++ Y)) w' ∧ SrtE U ∧ U.Perm U0
theorem end_concat (l : List El) : l = [] ∨ ∃ l' y, l = l' ++ [y] := by
  rcases List.eq_nil_or_concat l with h | ⟨l', y, h⟩
  · exact .inl h
  · exact .inr ⟨l', y, by rw [h]; simp⟩
set_option maxRecDepth 100000 in
set_option maxHeartbeats 4000000 in
theorem ins_any (w w0 : World) (g n c : Nat) (X U0 Y D : List El) (hD : D = X ++ (U0 ++ Y)) (h : Dt w0 g n D w) (hn : n ≤ 1000) (hs : Sm D) (hU : 0 < U0.length) (hasc : Asc U0) :
    Calls Try.prog 94 #[.slice (some ⟨g, 0, none⟩) n c, .int .i64 (X.length : Nat), .int .i64 ((X.length + U0.length : Nat) : Int), cmpF] w (SortPost w0 g n X U0 Y) := by
  obtain ⟨u, V0, rfl⟩ : ∃ u V0, U0 = u :: V0 := by
    cases U0 with
    | nil => simp at hU
    | cons u V => exact ⟨u, V, rfl⟩
  have hlen := h.len
  have hlx : X.length + (u :: V0).length ≤ n := by rw [← hlen, hD]; simp only [List.length_append]; omega
  obtain ⟨x0, hx0⟩ : ∃ x, X.length = x := ⟨_, rfl⟩
  obtain ⟨b, hb⟩ : ∃ b, X.length + (u :: V0).length = b := ⟨_, rfl⟩
  have hxb : x0 + 1 ≤ b ∧ b ≤ n := by rw [← hx0, ← hb]; simp only [List.length_cons] at hlx ⊢; omega
  have hxI : (0 : Int) ≤ x0 ∧ (x0 : Int) + 1 ≤ b ∧ (b : Int) ≤ n ∧ (n : Int) ≤ 1000 := by omega
  have HX := Lib.hid hx0
  have HB := Lib.hid hb
  have hini : Hid (InsR w0 g n X Y (u :: V0) b V0.length (.int .i64 ((x0 : Int) + 1)) w) := ⟨[u], V0, D, by rw [← hx0]; simp, by show D = _; rw [hD]; simp, h, List.pairwise_singleton _ _, by simp, List.Perm.refl _, rfl, by rw [← hb]; simp only [List.length_cons, List.length_nil]; omega, hs, ⟨fun p hp q hq => by rw [List.mem_singleton.1 hp]; exact (List.pairwise_cons.1 hasc).1 q hq, (List.pairwise_cons.1 hasc).2⟩⟩
  rw [hb, hx0]
  unfold cmpF
  clear hb hx0 hlx hlen hD h hs hU hasc
  go_enter Try.func94, Try.ntmps94
  go_wp2_with fail
  go_loopg [8] V0.length (InsR w0 g n X Y (u :: V0) b)
  case atStart => exact hini.out
  case round =>
    clear hini
    obtain ⟨U, V, D, rfl, hD, h, hs, hu, hp, hk, hl, hsm, hse⟩ := hrel
    obtain ⟨p, hpp⟩ : ∃ p, X.length + U.length = p := ⟨_, rfl⟩
    rw [hpp] at hl ⊢
    have HPP := Lib.hid hpp
    cases V with
    | nil =>
      have hpb : ¬ (p : Int) < (b : Int) := by have : p = b := hl
                                               omega
      clear hl hpp
      go_wp2_with fail
      go_end0
      exact ⟨U, rfl, by rw [hD.out] at h; exact h, hs, by have := hp.out; rwa [List.append_nil] at this⟩
    | cons x V =>
      have hpb : (p : Int) < (b : Int) ∧ (0 : Int) ≤ p := by simp only [List.length_cons] at hl; omega
      have hlv : p + 1 + V.length = b := by simp only [List.length_cons] at hl; omega
      have HLV := Lib.hid hlv
      have hini : Hid (InsI w0 g n X Y V U x U.length (.int .i64 p) wr) := ⟨U, [], D, by rw [hpp], by show D = _; rw [hD.out]; simp, h, by show _ = _; simp, fun q hq => by simp at hq, rfl, hsm⟩
      clear hl hpp hlv hD h hsm
      go_wp2_with fail
      go_loopg [9] U.length (InsI w0 g n X Y V U x)
      case atStart => exact hini.out
      case round =>
        clear hini
        obtain ⟨U1, U2, D, rfl, hD, h, hU, h2, hk2, hsm⟩ := hrel
        rcases end_concat U1 with rfl | ⟨U1, y, rfl⟩
        · have e1 : X.length + ([] : List El).length = x0 := HX.out
          rw [e1]
          clear e1
          go_wp2_with fail
          go_quiet (fail)
          go_wp2_with fail
          go_roundg V.length
          case measure => have := hk.out; rw [List.length_cons] at this; omega
          case rel =>
            have e : U2 = U := hU.out
            subst e
            have hlv := HLV.out
            refine ⟨x :: U2, V, D, ?_, ?_, h.drewN _, List.pairwise_cons.2 ⟨h2.out, hs⟩, by simp, ?_, rfl, ?_, hsm, sep_push hse.out fun p hp => List.mem_cons.1 hp⟩
            · rw [← HPP.out]; simp; omega
            · show D = _
              rw [hD.out]; simp
            · exact (List.perm_middle.symm).trans hp.out
            · have := HPP.out; rw [List.length_cons]; omega
        · obtain ⟨j, hj⟩ : ∃ j, X.length + U1.length = j := ⟨_, rfl⟩
          have e1 : X.length + (U1 ++ [y]).length = j + 1 := by rw [List.length_append, List.length_singleton]; omega
          have hjx : x0 ≤ j := by have := HX.out; omega
          have hlD := h.len
          have hjn : j + 1 < n := by
            rw [hD.out] at hlD
            simp only [List.length_append, List.length_cons, List.length_nil] at hlD
            omega
          obtain ⟨j1, hj1⟩ : ∃ j1, j + 1 = j1 := ⟨_, rfl⟩
          have ey : el D j = y := by rw [hD.out, show X ++ (U1 ++ [y] ++ x :: (U2 ++ (V ++ Y))) = (X ++ U1) ++ y :: (x :: (U2 ++ (V ++ Y))) by simp]; exact el_mid (by rw [List.length_append]; exact hj.symm)
          have ex : el D j1 = x := by rw [hD.out, show X ++ (U1 ++ [y] ++ x :: (U2 ++ (V ++ Y))) = (X ++ (U1 ++ [y])) ++ x :: (U2 ++ (V ++ Y)) by simp]; exact el_mid (by rw [List.length_append]; omega)
          have hmx : x ∈ D := by rw [← ex]; exact el_mem (by omega)
          have hmy : y ∈ D := by rw [← ey]; exact el_mem (by omega)
          have sx := hsm x hmx
          have sy := hsm y hmy
          obtain ⟨xw, xA, xn, xc⟩ := x
          obtain ⟨yw, yA, yn, yc⟩ := y
          replace sx : 0 ≤ xw ∧ xw ≤ 4294967296 := sx
          replace sy : 0 ≤ yw ∧ yw ≤ 4294967296 := sy
          have hjI : (0 : Int) ≤ j ∧ (j : Int) < n ∧ (0 : Int) ≤ j1 ∧ (j1 : Int) < n ∧ (x0 : Int) < j1 ∧ (j : Int) < j1 := by omega
          have hsub : (j1 : Int) - 1 = (j : Int) := by omega
          have hwr : IntKind.i64.wrap ((j1 : Int) - 1) = (j : Int) := by rw [IntWalk.i64_in _ (by omega)]; exact hsub
          have hwr2 : IntKind.i64.wrap (j : Int) = (j : Int) := IntWalk.i64_in _ (by omega)
          have H2 := Lib.hid (⟨by omega, by omega, ey, ex⟩ : j < n ∧ j1 < n ∧ el D j = (yw, yA, yn, yc) ∧ el D j1 = (xw, xA, xn, xc))
          obtain ⟨a0, a1, b0, b1, -⟩ := TwoS.of H2 h
          rw [e1, hj1]
          have HJ1 := Lib.hid hj1
          have HJ := Lib.hid hj
          clear e1 hj1 hjx hlD hjn ey ex hj hmx hmy
          go_wp2_with fail
          obtain ⟨d, hd⟩ : ∃ d, xw - yw = d := ⟨_, rfl⟩
          have HC := Lib.hid (⟨hd, sx, sy⟩ : xw - yw = d ∧ (0 ≤ xw ∧ xw ≤ 4294967296) ∧ (0 ≤ yw ∧ yw ≤ 4294967296))
          have hdb : d < 0 ↔ xw < yw := by omega
          have HDB := Lib.hid hdb
          clear hd sx sy hdb
          by_cases hlt : d < 0
          ·
            go_region_held3 (fun w' => w'.cell? ⟨g, j * 2, none⟩ = some (.int .i64 yw) ∧ w'.cell? ⟨g, j * 2 + 1, none⟩ = some (.slice yA yn yc) ∧ w'.cell? ⟨g, j1 * 2, none⟩ = some (.int .i64 xw) ∧ w'.cell? ⟨g, j1 * 2 + 1, none⟩ = some (.slice xA xn xc) ∧ Dt w0 g n D w')
              (first | exact TwoS.of H2 hh5 | exact TwoS.of H2 h | exact TwoS.of H2 h.drew)
              (first | (go_at_call 89; (refine (cmp_dt (by first | exact h | exact h.drew) _ _ HC).mono ?_); rintro e w5 ⟨rfl, hh5⟩))
            obtain ⟨a0, a1, b0, b1, -⟩ := TwoS.of H2 hh5
            have za0 := hh5.z (i := j * 2) (by have := H2.out.1; omega)
            have za1 := hh5.z (i := j * 2 + 1) (by have := H2.out.1; omega)
            have zb0 := hh5.z (i := j1 * 2) (by have := H2.out.2.1; omega)
            have zb1 := hh5.z (i := j1 * 2 + 1) (by have := H2.out.2.1; omega)
            obtain ⟨z0, c1, z1, c2, z2, c3, z3⟩ := hh5.stores H2.out.2.1 H2.out.1 (.int .i64 yw) (.slice yA yn yc) (.int .i64 xw)
            go_wp2_with fail
            go_region
            have h6 := (hh5.swp H2.out.2.1 H2.out.1 (by have := HJ1.out; omega)).drew
            rw [H2.out.2.2.1, H2.out.2.2.2] at h6
            clear z0 c1 z1 c2 z2 c3 z3 za0 za1 zb0 zb1 a0 a1 b0 b1 h
            all_goals
              go_wp2_with fail
              go_roundg U1.length
              case measure => have := hk2.out; rw [List.length_append, List.length_singleton] at this; omega
              case rel =>
                have e0 : D = (X ++ U1) ++ (yw, yA, yn, yc) :: ([] ++ (xw, xA, xn, xc) :: (U2 ++ (V ++ Y))) := by rw [hD.out]; simp
                have e9 : Go.Proofs.Ytlgkiookobedcaa.swp D j1 j = X ++ (U1 ++ (xw, xA, xn, xc) :: ((yw, yA, yn, yc) :: U2 ++ (V ++ Y))) := by
                  have hl : (X ++ U1).length = j := by rw [List.length_append]; exact HJ.out
                  rw [swp_comm, e0, swp_mid hl.symm (by rw [hl, ← HJ1.out]; simp)]
                  simp
                refine ⟨U1, (yw, yA, yn, yc) :: U2, _, by rw [HJ.out], e9, h6, ?_, fun q hq => ?_, rfl, fun q hq => ?_⟩
                · show _ = _
                  rw [← hU.out]; simp
                · rcases List.mem_cons.1 hq with rfl | hq
                  · have := HDB.out.1 hlt; exact .inl this
                  · exact h2.out q hq
                · have hln := hh5.len
                  exact hsm q (swp_mem (by have := H2.out.2.1; omega) (by have := H2.out.1; omega) q hq)
          · have hlt2 : decide (d < 0) = false := by simp; omega
            go_region_held3 (fun w' => w'.cell? ⟨g, j * 2, none⟩ = some (.int .i64 yw) ∧ w'.cell? ⟨g, j * 2 + 1, none⟩ = some (.slice yA yn yc) ∧ w'.cell? ⟨g, j1 * 2, none⟩ = some (.int .i64 xw) ∧ w'.cell? ⟨g, j1 * 2 + 1, none⟩ = some (.slice xA xn xc) ∧ Dt w0 g n D w')
              (first | exact TwoS.of H2 hh5 | exact TwoS.of H2 h | exact TwoS.of H2 h.drew)
              (first | (go_at_call 89; (refine (cmp_dt (by first | exact h | exact h.drew) _ _ HC).mono ?_); rintro e w5 ⟨rfl, hh5⟩))
            clear a0 a1 b0 b1 h
            go_wp2_with fail
            go_roundg V.length
            case measure => have := hk.out; rw [List.length_cons] at this; omega
            case rel =>
              have hlv := HLV.out
              have e := hU.out
              subst e
              have hdy : LeE (yw, yA, yn, yc) (xw, xA, xn, xc) := LeE.of_le (by have := HDB.out; show yw ≤ xw; omega) (hse.out.1 _ (by simp) _ List.mem_cons_self)
              refine ⟨(U1 ++ [(yw, yA, yn, yc)]) ++ (xw, xA, xn, xc) :: U2, V, D, ?_, ?_, hh5, ins_srt hs h2.out (srt_last (srt_app.1 hs).1 hdy), by simp; omega, ?_, rfl, ?_, hsm, sep_push hse.out fun p hp => by
                simp only [List.mem_append, List.mem_cons] at hp ⊢
                rcases hp with hp | hp | hp
                · exact .inr (.inl hp)
                · exact .inl hp
                · exact .inr (.inr hp)⟩
              · rw [← HPP.out]; simp; omega
              · show D = _
                rw [hD.out]; simp
              · refine List.Perm.trans ?_ hp.out
                have e1 : (U1 ++ [(yw, yA, yn, yc)]) ++ (xw, xA, xn, xc) :: U2 ++ V = (U1 ++ [(yw, yA, yn, yc)]) ++ ((xw, xA, xn, xc) :: (U2 ++ V)) := by simp
                have e2 : (U1 ++ [(yw, yA, yn, yc)]) ++ U2 ++ (xw, xA, xn, xc) :: V = (U1 ++ [(yw, yA, yn, yc)]) ++ (U2 ++ (xw, xA, xn, xc) :: V) := by simp
                rw [e1, e2]
                exact List.Perm.append_left _ List.perm_middle.symm
              · have := HPP.out
                rw [List.length_append, List.length_cons] at *
                omega
end Go.Proofs.Ytlgkiookobedcaa
namespace Go.Proofs.Ytlgkiookobedcaa
open Go.RowKit
set_option linter.unusedVariables false
theorem wr_in {x : Int} (h : -1000000 ≤ x ∧ x ≤ 1000000) : IntKind.i64.wrap x = x := IntWalk.i64_in _ (by omega)
def MvPost (w0 : World) (g n : Nat) (D : List El) (e : Ending) (w' : World) : Prop := e = .returned (.tuple #[]) ∧ Dt w0 g n D w'
def SwrR (w0 : World) (g n : Nat) (X P Q R Y : List El) (k : Nat) (v10 : Value) (wr : World) : Prop :=
  ∃ i P1 P2 R1 R2 D, v10 = .int .i64 (i : Nat) ∧ Hid (P = P1 ++ P2 ∧ R = R1 ++ R2 ∧ P1.length = i ∧ R1.length = i) ∧ Hid (D = X ++ (R1 ++ (P2 ++ (Q ++ (P1 ++ (R2 ++ Y)))))) ∧ Dt w0 g n D wr ∧ Hid (k = P2.length) ∧ i + P2.length = P.length
set_option maxRecDepth 100000 in
set_option maxHeartbeats 4000000 in
theorem swr_any (w w0 : World) (g n c : Nat) (X P Q R Y D : List El) (hD : D = X ++ (P ++ (Q ++ (R ++ Y)))) (hPR : P.length = R.length) (h : Dt w0 g n D w) (hn : n ≤ 1000) (A B N : Nat) (hA : X.length = A) (hB : X.length + P.length + Q.length = B) (hN : P.length = N) (F : Value) :
    Calls Try.prog 97 #[.slice (some ⟨g, 0, none⟩) n c, .int .i64 A, .int .i64 B, .int .i64 N, F] w (MvPost w0 g n (X ++ (R ++ (Q ++ (P ++ Y))))) := by
  have hlen := h.len
  have hln : A + P.length + Q.length + R.length ≤ n := by rw [← hlen, hD]; simp only [List.length_append]; omega
  have hini : Hid (SwrR w0 g n X P Q R Y N (.int .i64 0) w) := ⟨0, [], P, [], R, D, rfl, ⟨rfl, rfl, rfl, rfl⟩, by show D = _; rw [hD]; simp, h, hN.symm, Nat.zero_add _⟩
  have HA := Lib.hid hA
  have HB := Lib.hid hB
  have HN := Lib.hid hN
  have HL := Lib.hid hln
  have HPR := Lib.hid hPR
  have hbI : (0 : Int) ≤ A ∧ (A : Int) ≤ 1000 ∧ (0 : Int) ≤ B ∧ (B : Int) ≤ 1000 ∧ (0 : Int) ≤ N ∧ (N : Int) ≤ 1000 := by omega
  clear hD hPR h hlen hln hA hB hN
  go_enter Try.func97, Try.ntmps97
  go_wp2_with fail
  go_loopg [10] N (SwrR w0 g n X P Q R Y)
  case atStart => exact hini.out
  case round =>
    clear hini
    obtain ⟨i, P1, P2, R1, R2, D, rfl, hp, hD, h, hk, hi⟩ := hrel
    cases P2 with
    | nil =>
      have hiN : ¬ (i : Int) < (N : Int) := by have := HN.out; simp at hi; omega
      have hR2 : R2 = [] := List.eq_nil_of_length_eq_zero (by
        have h1 := congrArg List.length hp.out.2.1
        rw [List.length_append] at h1
        have := hp.out.2.2.2; have := HPR.out; simp at hi; omega)
      subst hR2
      clear hi
      go_wp2_with fail
      go_end0
      have e1 : P = P1 := by have := hp.out.1; rwa [List.append_nil] at this
      have e2 : R = R1 := by have := hp.out.2.1; rwa [List.append_nil] at this
      rw [hD.out] at h
      rw [e1, e2]
      exact ⟨rfl, h⟩
    | cons x P2 =>
      have hlR := congrArg List.length hp.out.2.1
      rw [List.length_append, hp.out.2.2.2] at hlR
      cases R2 with
      | nil => have := HPR.out; simp at hi hlR; omega
      | cons y R2 =>
        rw [List.length_cons] at hi hlR
        obtain ⟨p, hp1⟩ : ∃ p, A + i = p := ⟨_, rfl⟩
        obtain ⟨q, hq1⟩ : ∃ q, B + i = q := ⟨_, rfl⟩
        have e0 : D = (X ++ R1) ++ x :: ((P2 ++ (Q ++ P1)) ++ y :: (R2 ++ Y)) := by rw [hD.out]; simp
        have l1 : (X ++ R1).length = p := by rw [List.length_append, HA.out, hp.out.2.2.2]; exact hp1
        have l2 : (X ++ R1).length + 1 + (P2 ++ (Q ++ P1)).length = q := by
          rw [l1, List.length_append, List.length_append, hp.out.2.2.1]
          have := HB.out; have := HA.out; omega
        have ex : el D p = x := by rw [e0]; exact el_mid l1.symm
        have ey : el D q = y := by
          rw [e0, show (X ++ R1) ++ x :: ((P2 ++ (Q ++ P1)) ++ y :: (R2 ++ Y)) = ((X ++ R1) ++ x :: (P2 ++ (Q ++ P1))) ++ y :: (R2 ++ Y) by simp]
          exact el_mid (by rw [List.length_append, List.length_cons]; omega)
        have hqn : q < n := by have h1 := h.len; rw [e0] at h1; simp only [List.length_append, List.length_cons] at h1 l2; omega
        have hpq : p < q := by omega
        obtain ⟨xw, xA, xn, xc⟩ := x
        obtain ⟨yw, yA, yn, yc⟩ := y
        have H2 := Lib.hid (⟨by omega, hqn, ex, ey⟩ : p < n ∧ q < n ∧ el D p = (xw, xA, xn, xc) ∧ el D q = (yw, yA, yn, yc))
        obtain ⟨a0, a1, b0, b1, -⟩ := TwoS.of H2 h
        have za0 := h.z (i := p * 2) (by omega)
        have za1 := h.z (i := p * 2 + 1) (by omega)
        have zb0 := h.z (i := q * 2) (by omega)
        have zb1 := h.z (i := q * 2 + 1) (by omega)
        obtain ⟨z0, c1, z1, c2, z2, c3, z3⟩ := h.stores H2.out.1 H2.out.2.1 (.int .i64 yw) (.slice yA yn yc) (.int .i64 xw)
        have hne2 : ¬ p * 2 = q * 2 := by omega
        have hiI : (0 : Int) ≤ i ∧ (i : Int) < N ∧ (0 : Int) ≤ p ∧ (p : Int) < n ∧ (0 : Int) ≤ q ∧ (q : Int) < n := by have := HN.out; omega
        have hsp : (A : Int) + (i : Int) = (p : Int) := by omega
        have hsq : (B : Int) + (i : Int) = (q : Int) := by omega
        have w1 : IntKind.i64.wrap ((A : Int) + (i : Int)) = (p : Int) := by rw [hsp]; exact wr_in (by omega)
        have w2 : IntKind.i64.wrap ((B : Int) + (i : Int)) = (q : Int) := by rw [hsq]; exact wr_in (by omega)
        have w3 : IntKind.i64.wrap (p : Int) = (p : Int) := wr_in (by omega)
        have w4 : IntKind.i64.wrap (q : Int) = (q : Int) := wr_in (by omega)
        have HE0 := Lib.hid (⟨e0, l1, l2, hpq, hi⟩ : _ ∧ _ ∧ _ ∧ _ ∧ _)
        clear e0 l1 l2 hpq ex ey hqn hi hlR hp1 hq1
        go_wp2_with fail
        go_region
        have h6 := (h.swp H2.out.1 H2.out.2.1 (by have := HE0.out.2.2.2.1; omega)).drew
        rw [H2.out.2.2.1, H2.out.2.2.2] at h6
        clear za0 za1 zb0 zb1 a0 a1 b0 b1 h w1 w2 w3 w4 z0 c1 z1 c2 z2 c3 z3 hne2
        all_goals
          go_wp2_with fail
          go_roundg P2.length
          case measure => have := hk.out; rw [List.length_cons] at this; omega
          case rel =>
            obtain ⟨e0, l1, l2, hpq, hi⟩ := HE0.out
            refine ⟨i + 1, P1 ++ [(xw, xA, xn, xc)], P2, R1 ++ [(yw, yA, yn, yc)], R2, _, by go_num, ?_, ?_, h6, rfl, by omega⟩
            · obtain ⟨g1, g2, g3, g4⟩ := hp.out
              exact ⟨by rw [g1]; simp, by rw [g2]; simp, by rw [List.length_append, g3]; rfl, by rw [List.length_append, g4]; rfl⟩
            · show _ = _
              rw [e0, swp_mid l1.symm l2.symm]
              simp
def RotR (w0 : World) (g n M : Nat) (G : List El) (k : Nat) (v10 v11 : Value) (wr : World) : Prop :=
  ∃ (i j : Nat) (X U V Y D : List El), v10 = .int .i64 i ∧ v11 = .int .i64 j ∧ Hid (U.length = i ∧ V.length = j ∧ X.length + i = M) ∧ Hid (D = X ++ (U ++ (V ++ Y))) ∧ Dt w0 g n D wr ∧ Hid (X ++ (V ++ (U ++ Y)) = G) ∧ 0 < i ∧ 0 < j ∧ Hid (k = i + j) ∧ i + j ≤ n ∧ M + j ≤ n
set_option maxRecDepth 100000 in
set_option maxHeartbeats 4000000 in
theorem rot_any (w w0 : World) (g n c : Nat) (X U V Y D : List El) (hD : D = X ++ (U ++ (V ++ Y))) (h : Dt w0 g n D w) (hn : n ≤ 1000) (A M B : Nat) (hA : X.length = A) (hM : X.length + U.length = M) (hB : X.length + U.length + V.length = B) (hU : 0 < U.length) (hV : 0 < V.length) :
    Calls Try.prog 96 #[.slice (some ⟨g, 0, none⟩) n c, .int .i64 A, .int .i64 M, .int .i64 B, cmpF] w (MvPost w0 g n (X ++ (V ++ (U ++ Y)))) := by
  have hlen := h.len
  have hln : A + U.length + V.length ≤ n := by rw [← hlen, hD]; simp only [List.length_append]; omega
  obtain ⟨i0, hi0⟩ : ∃ i, U.length = i := ⟨_, rfl⟩
  obtain ⟨j0, hj0⟩ : ∃ j, V.length = j := ⟨_, rfl⟩
  have hini : Hid (RotR w0 g n M (X ++ (V ++ (U ++ Y))) (i0 + j0) (.int .i64 i0) (.int .i64 j0) w) := ⟨i0, j0, X, U, V, Y, D, rfl, rfl, ⟨hi0, hj0, by omega⟩, hD, h, rfl, by omega, by omega, rfl, by omega, by omega⟩
  have hbI : (0 : Int) ≤ A ∧ (A : Int) ≤ 1000 ∧ (0 : Int) ≤ B ∧ (B : Int) ≤ 1000 ∧ (0 : Int) ≤ M ∧ (M : Int) ≤ 1000 := by omega
  have s1 : (M : Int) - (A : Int) = (i0 : Int) := by omega
  have s2 : (B : Int) - (M : Int) = (j0 : Int) := by omega
  have hnI : (n : Int) ≤ 1000 := by omega
  clear hD h hlen hln hA hB hM hU hV hi0 hj0 hn
  unfold cmpF
  go_enter Try.func96, Try.ntmps96
  go_wp2_with fail
  go_loopg [10, 11] (i0 + j0) (RotR w0 g n M (X ++ (V ++ (U ++ Y))))
  case atStart => exact hini.out
  case round =>
    clear hini s1 s2
    obtain ⟨i, j, X, U, V, Y, D, rfl, rfl, hl, hD, h, hG, hi, hj, hk, hij, hMj⟩ := hrel
    obtain ⟨A', hA'⟩ : ∃ A', X.length = A' := ⟨_, rfl⟩
    have hAM : A' + i = M := by have := hl.out.2.2; omega
    have hsA : (M : Int) - (i : Int) = (A' : Int) := by omega
    have hiI : (0 : Int) ≤ i ∧ (i : Int) ≤ 1000 ∧ (0 : Int) ≤ j ∧ (j : Int) ≤ 1000 ∧ (0 : Int) ≤ A' ∧ (A' : Int) ≤ 1000 := by omega
    have HA := Lib.hid hA'
    have HAM := Lib.hid hAM
    have HIJ := Lib.hid (⟨hi, hj, hij, hMj⟩ : _ ∧ _ ∧ _ ∧ _)
    rcases Nat.lt_trichotomy i j with hlt | heq | hgt
    ·
      obtain ⟨V1, V2, hV, hV1⟩ : ∃ V1 V2, V = V1 ++ V2 ∧ V1.length = j - i := ⟨V.take (j - i), V.drop (j - i), (List.take_append_drop ..).symm, by rw [List.length_take, hl.out.2.1]; omega⟩
      have hV2 : V2.length = i := by have := hl.out.2.1; rw [hV, List.length_append] at this; omega
      obtain ⟨B', hB'⟩ : ∃ B', M + j - i = B' := ⟨_, rfl⟩
      have HS := Lib.hid (swr_any wr w0 g n c X U V1 V2 Y D (by rw [hD.out, hV]; simp) (by rw [hl.out.1, hV2]) h (by omega) A' B' i hA' (by rw [hl.out.1, hV1]; omega) hl.out.1 (.func (.func 89) #[] #[]))
      have hc1 : ((i : Int) != (j : Int)) = true := by simp; omega
      have hc2 : ¬ (j : Int) < (i : Int) := by omega
      have hsB : (M : Int) + (j : Int) - (i : Int) = (B' : Int) := by omega
      obtain ⟨j', hj'⟩ : ∃ j', j - i = j' := ⟨_, rfl⟩
      have hsj : (j : Int) - (i : Int) = (j' : Int) := by omega
      have HV := Lib.hid (⟨hV, hV1, hV2, hj', hlt⟩ : _ ∧ _ ∧ _ ∧ _ ∧ _)
      clear hV hV1 hV2 hj' hlt hB' hi hj hij hMj hA' hAM h
      go_wp2_with fail
      refine HS.out.mono ?_
      rintro e w5 ⟨rfl, h5⟩
      go_wp2_with fail
      go_roundg (i + j')
      case measure => have := hk.out; have := HIJ.out; have := HV.out.2.2.2; omega
      case rel =>
        obtain ⟨hV, hV1, hV2, hj', hlt⟩ := HV.out
        refine ⟨i, j', X, V2, V1, U ++ Y, _, rfl, rfl, ⟨hV2, by rw [hV1, hj'], hl.out.2.2⟩, ?_, h5, ?_, HIJ.out.1, by omega, rfl, by have := HIJ.out; omega, by have := HIJ.out; omega⟩
        · show _ = _
          simp
        · show _ = _
          rw [← hG.out, hV]; simp
    · subst heq
      have HS := Lib.hid (swr_any wr w0 g n c X U [] V Y D (by rw [hD.out]; simp) (by rw [hl.out.1, hl.out.2.1]) h (by omega) A' M i hA' (by rw [hl.out.1]; simp; omega) hl.out.1 (.func (.func 89) #[] #[]))
      clear hi hj hij hMj hA' hAM h
      go_wp2_with fail
      refine HS.out.mono ?_
      rintro e w5 ⟨rfl, h5⟩
      go_wp2_with fail
      go_end0
      rw [List.nil_append, hG.out] at h5
      exact ⟨rfl, h5⟩
    · obtain ⟨U1, U2, hU, hU1⟩ : ∃ U1 U2, U = U1 ++ U2 ∧ U1.length = j := ⟨U.take j, U.drop j, (List.take_append_drop ..).symm, by rw [List.length_take, hl.out.1]; omega⟩
      have hU2 : U2.length = i - j := by have := hl.out.1; rw [hU, List.length_append] at this; omega
      have HS := Lib.hid (swr_any wr w0 g n c X U1 U2 V Y D (by rw [hD.out, hU]; simp) (by rw [hl.out.2.1, hU1]) h (by omega) A' M j hA' (by rw [hU1, hU2]; omega) hU1 (.func (.func 89) #[] #[]))
      have hc1 : ((i : Int) != (j : Int)) = true := by simp; omega
      have hc2 : (j : Int) < (i : Int) := by omega
      obtain ⟨i', hi'⟩ : ∃ i', i - j = i' := ⟨_, rfl⟩
      have hsi : (i : Int) - (j : Int) = (i' : Int) := by omega
      have HV := Lib.hid (⟨hU, hU1, hU2, hi', hgt⟩ : _ ∧ _ ∧ _ ∧ _ ∧ _)
      clear hU hU1 hU2 hi' hgt hi hj hij hMj hA' hAM h
      go_wp2_with fail
      refine HS.out.mono ?_
      rintro e w5 ⟨rfl, h5⟩
      go_wp2_with fail
      go_roundg (i' + j)
      case measure => have := hk.out; have := HIJ.out; have := HV.out.2.2.2; omega
      case rel =>
        obtain ⟨hU, hU1, hU2, hi', hgt⟩ := HV.out
        refine ⟨i', j, X ++ V, U2, U1, Y, _, rfl, rfl, ⟨by rw [hU2, hi'], hU1, ?_⟩, ?_, h5, ?_, by omega, HIJ.out.2.1, rfl, by have := HIJ.out; omega, by have := HIJ.out; omega⟩
        · have := hl.out; rw [List.length_append]; omega
        · show _ = _
          simp
        · show _ = _
          rw [← hG.out, hU]; simp
end Go.Proofs.Ytlgkiookobedcaa
namespace Go.Proofs.Ytlgkiookobedcaa
open Go.RowKit
set_option linter.unusedVariables false
theorem srt_take {V : List El} {h : Nat} (hV : SrtE V) (hh : h < V.length) : ∀ q ∈ V.take (h + 1), LeE q (el V h) := fun q hq => by
  obtain ⟨V1, y, V2, e, hl⟩ : ∃ V1 y V2, V = V1 ++ y :: V2 ∧ V1.length = h := ⟨V.take h, V[h], V.drop (h + 1), by simp, by simp; omega⟩
  subst hl
  rw [e] at hV hq ⊢
  rw [el_mid rfl]
  have e2 : (V1 ++ y :: V2).take (V1.length + 1) = V1 ++ [y] := by
    rw [show V1 ++ y :: V2 = (V1 ++ [y]) ++ V2 by simp, List.take_append_of_le_length (by simp), List.take_of_length_le (by simp)]
  rw [e2] at hq
  rcases List.mem_append.1 hq with h1 | h1
  · exact (srt_app.1 hV).2.2 q h1 y List.mem_cons_self
  · rw [List.mem_singleton.1 h1]; exact LeE.rfl' _
theorem srt_drop {V : List El} {h : Nat} (hV : SrtE V) (hh : h < V.length) : ∀ q ∈ V.drop h, LeE (el V h) q := fun q hq => by
  obtain ⟨V1, y, V2, e, hl⟩ : ∃ V1 y V2, V = V1 ++ y :: V2 ∧ V1.length = h := ⟨V.take h, V[h], V.drop (h + 1), by simp, by simp; omega⟩
  subst hl
  rw [e] at hV hq ⊢
  rw [el_mid rfl]
  rw [List.drop_left] at hq
  rcases List.mem_cons.1 hq with h1 | h1
  · rw [h1]; exact LeE.rfl' _
  · exact (List.pairwise_cons.1 (srt_app.1 hV).2.1).1 q h1
theorem el_seg {X V Y : List El} {h : Nat} (hh : h < V.length) : el (X ++ (V ++ Y)) (X.length + h) = el V h := by
  rw [el_app_right (by omega), Nat.add_sub_cancel_left, el_app_left hh]
def S1R (w0 : World) (g n : Nat) (D V : List El) (u : El) (M : Nat) (k : Nat) (v10 v11 : Value) (wr : World) : Prop :=
  ∃ i j : Nat, v10 = .int .i64 i ∧ v11 = .int .i64 j ∧ M ≤ i ∧ i ≤ j ∧ j ≤ M + V.length ∧ Hid (∀ q ∈ V.take (i - M), LeE q u) ∧ Hid (∀ q ∈ V.drop (j - M), LeE u q) ∧ Hid (k = j - i) ∧ Dt w0 g n D wr
def S1M (w0 : World) (g n : Nat) (X V Y : List El) (u : El) (A s : Nat) (k : Nat) (v13 : Value) (wr : World) : Prop :=
  ∃ t D, v13 = .int .i64 ((A + t : Nat) : Int) ∧ t ≤ s ∧ Hid (D = X ++ (V.take t ++ u :: (V.drop t ++ Y))) ∧ Hid (k = s - t) ∧ Dt w0 g n D wr
set_option maxRecDepth 100000 in
set_option maxHeartbeats 8000000 in
theorem sym1_any (w w0 : World) (g n c : Nat) (X V Y D : List El) (u : El) (hD : D = X ++ (u :: (V ++ Y))) (h : Dt w0 g n D w) (hn : n ≤ 1000) (hsm : Sm D) (A M B : Nat) (hA : X.length = A) (hM : A + 1 = M) (hB : M + V.length = B) (hV : SrtE V) (hV0 : 0 < V.length) (hse : Sep [u] V) :
    Calls Try.prog 95 #[.slice (some ⟨g, 0, none⟩) n c, .int .i64 A, .int .i64 M, .int .i64 B, cmpF] w (SortPost w0 g n X (u :: V) Y) := by
  have hlen := h.len
  have hBn : B ≤ n := by rw [← hlen, hD]; simp only [List.length_append, List.length_cons]; omega
  have eu : el D A = u := by rw [hD]; exact el_mid hA.symm
  have ev : ∀ q, q < V.length → el D (M + q) = el V q := fun q hq => by
    rw [hD, show X ++ (u :: (V ++ Y)) = (X ++ [u]) ++ (V ++ Y) by simp, show M + q = (X ++ [u]).length + q by rw [List.length_append, List.length_singleton]; omega]
    exact el_seg hq
  have hini : Hid (S1R w0 g n D V u M V.length (.int .i64 M) (.int .i64 B) w) := ⟨M, B, rfl, rfl, Nat.le_refl _, by omega, by omega, fun q hq => by simp at hq, fun q hq => by rw [← hB, Nat.add_sub_cancel_left, List.drop_length] at hq; simp at hq, by show _ = _; omega, h⟩
  have hbI : (0 : Int) ≤ A ∧ (A : Int) ≤ 1000 ∧ (0 : Int) ≤ B ∧ (B : Int) ≤ 1000 ∧ (0 : Int) ≤ M ∧ (M : Int) ≤ 1000 ∧ (A : Int) < n ∧ (n : Int) ≤ 1000 := by omega
  have hs1 : (M : Int) - (A : Int) = 1 := by omega
  have HA := Lib.hid (⟨hA, hM, hB, hBn, hn⟩ : _ ∧ _ ∧ _ ∧ _ ∧ _)
  have HD := Lib.hid hD
  have HU := Lib.hid eu
  have HV := Lib.hid ev
  have HVS := Lib.hid (⟨hV, hV0⟩ : _ ∧ _)
  have HSE : Hid (∀ q, q < V.length → ps u ≤ ps (el V q)) := fun q hq => hse u List.mem_cons_self _ (el_mem hq)
  have HSM := Lib.hid hsm
  have HLD := Lib.hid hlen
  clear hA hM hB hBn hn hD eu ev hV hV0 hsm hlen h hse
  unfold cmpF
  go_enter Try.func95, Try.ntmps95
  go_wp2_with fail
  go_loopg [10, 11] V.length (S1R w0 g n D V u M)
  case atStart => exact hini.out
  case round =>
    clear hini
    obtain ⟨i, j, rfl, rfl, hMi, hij, hjV, h1, h2, hk, h⟩ := hrel
    by_cases hlt : i < j
    · obtain ⟨q, hq⟩ : ∃ q, (i + j) / 2 = q := ⟨_, rfl⟩
      have hiq : i ≤ q ∧ q < j := by omega
      have hBn : B ≤ n := HA.out.2.2.2.1
      have hMV : M + V.length = B := HA.out.2.2.1
      have hltI : (i : Int) < (j : Int) := by omega
      have hqI : (0 : Int) ≤ q ∧ (q : Int) < n ∧ (0 : Int) ≤ i ∧ (0 : Int) ≤ j ∧ (j : Int) ≤ 1000 ∧ (i : Int) ≤ 1000 := by omega
      have hqd : ((i : Int) + (j : Int)) / 2 = (q : Int) := by omega
      have hqV : q - M < V.length := by omega
      obtain ⟨v, hv⟩ : ∃ v, el V (q - M) = v := ⟨_, rfl⟩
      have ev : el D q = v := by rw [← hv, ← HV.out (q - M) hqV]; congr 1; omega
      have hlD := HLD.out
      have hAn : A < n := by omega
      have sv1 := HSM.out v (by rw [← ev]; exact el_mem (by omega))
      have su1 := HSM.out u (by rw [← HU.out]; exact el_mem (by omega))
      have HVV := Lib.hid (⟨hv, hqV, hiq, hMi, hij, hjV⟩ : _ ∧ _ ∧ _ ∧ _ ∧ _ ∧ _)
      have HUU := HU.out
      obtain ⟨vw, vA, vn, vc⟩ := v
      obtain ⟨uw, uA, un, uc⟩ := u
      replace sv1 : 0 ≤ vw ∧ vw ≤ 4294967296 := sv1
      replace su1 : 0 ≤ uw ∧ uw ≤ 4294967296 := su1
      have H2 := Lib.hid (⟨by omega, hAn, ev, HUU⟩ : q < n ∧ A < n ∧ el D q = (vw, vA, vn, vc) ∧ el D A = (uw, uA, un, uc))
      obtain ⟨d, hd⟩ : ∃ d, vw - uw = d := ⟨_, rfl⟩
      have HC := Lib.hid (⟨hd, sv1, su1⟩ : vw - uw = d ∧ (0 ≤ vw ∧ vw ≤ 4294967296) ∧ (0 ≤ uw ∧ uw ≤ 4294967296))
      have HDB : Hid (d < 0 ↔ vw < uw) := by show _ ↔ _; omega
      obtain ⟨a0, a1, b0, b1, -⟩ := TwoS.of H2 h
      clear hd sv1 su1 ev hv hqV hiq hMi hij hjV hlD hAn HUU hBn hMV hlt
      go_wp2_with fail
      by_cases hd0 : d < 0
      · go_region_held3 (fun w' => w'.cell? ⟨g, q * 2, none⟩ = some (.int .i64 vw) ∧ w'.cell? ⟨g, q * 2 + 1, none⟩ = some (.slice vA vn vc) ∧ w'.cell? ⟨g, A * 2, none⟩ = some (.int .i64 uw) ∧ w'.cell? ⟨g, A * 2 + 1, none⟩ = some (.slice uA un uc) ∧ Dt w0 g n D w')
          (first | exact TwoS.of H2 hh5 | exact TwoS.of H2 h | exact TwoS.of H2 h.drew)
          (first | (go_at_call 89; (refine (cmp_dt (by first | exact h | exact h.drew) _ _ HC).mono ?_); rintro e w5 ⟨rfl, hh5⟩))
        clear a0 a1 b0 b1 h
        go_wp2_with fail
        go_roundg (j - (q + 1))
        case measure => have := hk.out; have := HVV.out.2.2.1; omega
        case rel =>
          obtain ⟨hv, hqV, hiq, hMi, hij, hjV⟩ := HVV.out
          refine ⟨q + 1, j, by go_num, rfl, by omega, by omega, hjV, fun p hp => ?_, h2, rfl, hh5⟩
          rw [show q + 1 - M = q - M + 1 by omega] at hp
          have := srt_take HVS.out.1 hqV p hp
          rw [hv] at this
          exact this.trans (.inl (HDB.out.1 hd0))
      · have hd1 : decide (d < 0) = false := by simp; omega
        go_region_held3 (fun w' => w'.cell? ⟨g, q * 2, none⟩ = some (.int .i64 vw) ∧ w'.cell? ⟨g, q * 2 + 1, none⟩ = some (.slice vA vn vc) ∧ w'.cell? ⟨g, A * 2, none⟩ = some (.int .i64 uw) ∧ w'.cell? ⟨g, A * 2 + 1, none⟩ = some (.slice uA un uc) ∧ Dt w0 g n D w')
          (first | exact TwoS.of H2 hh5 | exact TwoS.of H2 h | exact TwoS.of H2 h.drew)
          (first | (go_at_call 89; (refine (cmp_dt (by first | exact h | exact h.drew) _ _ HC).mono ?_); rintro e w5 ⟨rfl, hh5⟩))
        clear a0 a1 b0 b1 h
        go_wp2_with fail
        go_roundg (q - i)
        case measure => have := hk.out; have := HVV.out.2.2.1; omega
        case rel =>
          obtain ⟨hv, hqV, hiq, hMi, hij, hjV⟩ := HVV.out
          refine ⟨i, q, rfl, rfl, hMi, by omega, by omega, h1, fun p hp => ?_, rfl, hh5⟩
          have := srt_drop HVS.out.1 hqV p hp
          rw [hv] at this
          have h8 := HSE.out _ hqV
          rw [hv] at h8
          exact (LeE.of_le (by have h9 := HDB.out; show uw ≤ vw; omega) h8).trans this
    · obtain rfl : i = j := by omega
      obtain ⟨s, hs⟩ : ∃ s, i - M = s := ⟨_, rfl⟩
      have his : i = A + 1 + s := by have := HA.out.2.1; omega
      have hsub : (i : Int) - 1 = ((A + s : Nat) : Int) := by omega
      have hiI : (0 : Int) ≤ i ∧ (i : Int) ≤ 1000 := by have := HA.out; omega
      have hini : Hid (S1M w0 g n X V Y u A s s (.int .i64 A) wr) := ⟨0, D, rfl, Nat.zero_le _, by show D = _; rw [HD.out]; simp, rfl, h⟩
      rw [hs] at h1 h2
      have HI := Lib.hid (⟨his, hs, hMi, hjV⟩ : _ ∧ _ ∧ _ ∧ _)
      obtain ⟨E, hE⟩ : ∃ E, A + s = E := ⟨_, rfl⟩
      rw [hE] at hsub
      have hEI : (0 : Int) ≤ E ∧ (E : Int) ≤ 1000 := by omega
      have HE := Lib.hid hE
      clear his hs hij hMi hjV hlt h hE
      go_wp2_with fail
      go_loopg [13] s (S1M w0 g n X V Y u A s)
      case atStart => exact hini.out
      case round =>
        clear hini
        obtain ⟨t, D1, rfl, hts, hD1, hk3, h⟩ := hrel
        have hl1 := h.len
        have hBn := HA.out
        have hi4 := HI.out
        by_cases htl : t < s
        · have htV : t < V.length := by omega
          obtain ⟨p, hp⟩ : ∃ p, A + t = p := ⟨_, rfl⟩
          obtain ⟨p1, hp1⟩ : ∃ p1, p + 1 = p1 := ⟨_, rfl⟩
          obtain ⟨y, hy⟩ : ∃ y, el V t = y := ⟨_, rfl⟩
          have hdr : V.drop t = y :: V.drop (t + 1) := by rw [List.drop_eq_getElem_cons htV, ← hy]; simp [el, htV]
          have htk : V.take (t + 1) = V.take t ++ [y] := by rw [List.take_succ_eq_append_getElem htV, ← hy]; simp [el, htV]
          have e0 : D1 = (X ++ V.take t) ++ u :: ([] ++ y :: (V.drop (t + 1) ++ Y)) := by rw [hD1.out, hdr]; simp
          have l1 : (X ++ V.take t).length = p := by rw [List.length_append, List.length_take]; omega
          have ex : el D1 p = u := by rw [e0]; exact el_mid l1.symm
          have ey : el D1 p1 = y := by
            rw [e0, show (X ++ V.take t) ++ u :: ([] ++ y :: (V.drop (t + 1) ++ Y)) = ((X ++ V.take t) ++ [u]) ++ y :: (V.drop (t + 1) ++ Y) by simp]
            exact el_mid (by rw [List.length_append, l1, List.length_singleton]; omega)
          obtain ⟨xw, xA, xn, xc⟩ := u
          obtain ⟨yw, yA, yn, yc⟩ := y
          have H2 := Lib.hid (⟨by omega, by omega, ex, ey⟩ : p < n ∧ p1 < n ∧ el D1 p = (xw, xA, xn, xc) ∧ el D1 p1 = (yw, yA, yn, yc))
          obtain ⟨a0, a1, b0, b1, -⟩ := TwoS.of H2 h
          have za0 := h.z (i := p * 2) (by omega)
          have za1 := h.z (i := p * 2 + 1) (by omega)
          have zb0 := h.z (i := p1 * 2) (by omega)
          have zb1 := h.z (i := p1 * 2 + 1) (by omega)
          obtain ⟨z0, c1, z1, c2, z2, c3, z3⟩ := h.stores H2.out.1 H2.out.2.1 (.int .i64 yw) (.slice yA yn yc) (.int .i64 xw)
          have hne2 : ¬ p * 2 = p1 * 2 := by omega
          have hpI : (0 : Int) ≤ p ∧ (p : Int) < n ∧ (0 : Int) ≤ p1 ∧ (p1 : Int) < n ∧ (p : Int) < (E : Int) := by have := HE.out; omega
          have hsp : (p : Int) + 1 = (p1 : Int) := by omega
          have w1 : IntKind.i64.wrap ((p : Int) + 1) = (p1 : Int) := by rw [hsp]; exact wr_in (by omega)
          have w3 : IntKind.i64.wrap (p1 : Int) = (p1 : Int) := wr_in (by omega)
          have HE0 := Lib.hid (⟨e0, l1, hp, hp1, htl, htk⟩ : _ ∧ _ ∧ _ ∧ _ ∧ _ ∧ _)
          rw [hp]
          clear e0 l1 ex ey hp hp1 htl htk hdr htV hy hl1 hBn hi4 hts
          go_wp2_with fail
          go_region
          have h6 := (h.swp H2.out.1 H2.out.2.1 (by have := HE0.out.2.2.2.1; omega)).drew
          rw [H2.out.2.2.1, H2.out.2.2.2] at h6
          clear za0 za1 zb0 zb1 a0 a1 b0 b1 h w1 w3 z0 c1 z1 c2 z2 c3 z3 hne2
          all_goals
            go_wp2_with fail
            go_roundg (s - (t + 1))
            case measure => have := hk3.out; have := HE0.out.2.2.2.2.1; omega
            case rel =>
              obtain ⟨e0, l1, hp, hp1, htl, htk⟩ := HE0.out
              refine ⟨t + 1, _, by go_num, htl, ?_, rfl, h6⟩
              show _ = _
              rw [e0, swp_mid l1.symm (by rw [l1, ← hp1]; rfl), htk]
              simp
        · obtain rfl : s = t := by omega
          have hpE : ¬ ((A + s : Nat) : Int) < (E : Int) := by have := HE.out; omega
          obtain ⟨p, hp⟩ : ∃ p, A + s = p := ⟨_, rfl⟩
          rw [hp] at hpE ⊢
          clear hp htl hts hl1 hBn hi4
          go_wp2_with fail
          go_end0
          rw [hD1.out] at h
          have hsrt := ins_srt (x := u) (U1 := V.take s) (U2 := V.drop s) (by rw [List.take_append_drop]; exact HVS.out.1) h2.out h1.out
          refine ⟨V.take s ++ u :: V.drop s, rfl, ?_, hsrt, ?_⟩
          · have e : X ++ ((V.take s ++ u :: V.drop s) ++ Y) = X ++ (V.take s ++ u :: (V.drop s ++ Y)) := by simp
            rw [e]; exact h
          · refine List.perm_middle.trans ?_
            rw [List.take_append_drop]
def S2R (w0 : World) (g n : Nat) (D U : List El) (v : El) (A : Nat) (k : Nat) (v14 v15 : Value) (wr : World) : Prop :=
  ∃ i j : Nat, v14 = .int .i64 i ∧ v15 = .int .i64 j ∧ A ≤ i ∧ i ≤ j ∧ j ≤ A + U.length ∧ Hid (∀ q ∈ U.take (i - A), LeE q v) ∧ Hid (∀ q ∈ U.drop (j - A), LeE v q) ∧ Hid (k = j - i) ∧ Dt w0 g n D wr
def S2M (w0 : World) (g n : Nat) (X U Y : List El) (v : El) (A s : Nat) (k : Nat) (v17 : Value) (wr : World) : Prop :=
  ∃ t D, v17 = .int .i64 ((A + t : Nat) : Int) ∧ s ≤ t ∧ t ≤ U.length ∧ Hid (D = X ++ (U.take t ++ v :: (U.drop t ++ Y))) ∧ Hid (k = t - s) ∧ Dt w0 g n D wr
set_option maxRecDepth 100000 in
set_option maxHeartbeats 8000000 in
theorem sym2_any (w w0 : World) (g n c : Nat) (X U Y D : List El) (v : El) (hD : D = X ++ (U ++ (v :: Y))) (h : Dt w0 g n D w) (hn : n ≤ 1000) (hsm : Sm D) (A M B : Nat) (hA : X.length = A) (hM : A + U.length = M) (hB : M + 1 = B) (hU : SrtE U) (hU0 : 1 < U.length) (hse : Sep U [v]) :
    Calls Try.prog 95 #[.slice (some ⟨g, 0, none⟩) n c, .int .i64 A, .int .i64 M, .int .i64 B, cmpF] w (SortPost w0 g n X (U ++ [v]) Y) := by
  have hlen := h.len
  have hBn : B ≤ n := by rw [← hlen, hD]; simp only [List.length_append, List.length_cons]; omega
  have ev : el D M = v := by rw [hD, show X ++ (U ++ (v :: Y)) = (X ++ U) ++ v :: Y by simp]; exact el_mid (by rw [List.length_append]; omega)
  have eu : ∀ q, q < U.length → el D (A + q) = el U q := fun q hq => by
    rw [hD, ← hA]
    exact el_seg hq
  have hini : Hid (S2R w0 g n D U v A U.length (.int .i64 A) (.int .i64 M) w) := ⟨A, M, rfl, rfl, Nat.le_refl _, by omega, by omega, fun q hq => by simp at hq, fun q hq => by rw [← hM, Nat.add_sub_cancel_left, List.drop_length] at hq; simp at hq, by show _ = _; omega, h⟩
  have hbI : (0 : Int) ≤ A ∧ (A : Int) ≤ 1000 ∧ (0 : Int) ≤ B ∧ (B : Int) ≤ 1000 ∧ (0 : Int) ≤ M ∧ (M : Int) ≤ 1000 ∧ (M : Int) < n ∧ (n : Int) ≤ 1000 := by omega
  obtain ⟨nu, hnu⟩ : ∃ k, U.length = k := ⟨_, rfl⟩
  have hs1 : (M : Int) - (A : Int) = (nu : Int) := by omega
  have hs2 : (B : Int) - (M : Int) = 1 := by omega
  have hnu1 : ((nu : Int) == 1) = false := by simp; omega
  have HA := Lib.hid (⟨hA, hM, hB, hBn, hn⟩ : _ ∧ _ ∧ _ ∧ _ ∧ _)
  have HD := Lib.hid hD
  have HV := Lib.hid ev
  have HU := Lib.hid eu
  have HUS := Lib.hid (⟨hU, hU0⟩ : _ ∧ _)
  have HSE : Hid (∀ q, q < U.length → ps (el U q) ≤ ps v) := fun q hq => hse _ (el_mem hq) v List.mem_cons_self
  have HSM := Lib.hid hsm
  have HLD := Lib.hid hlen
  clear hA hM hB hBn hn hD eu ev hU hU0 hsm hlen h hnu hse
  unfold cmpF
  go_enter Try.func95, Try.ntmps95
  go_wp2_with fail
  go_loopg [14, 15] U.length (S2R w0 g n D U v A)
  case atStart => exact hini.out
  case round =>
    clear hini hs1 hs2 hnu1
    obtain ⟨i, j, rfl, rfl, hMi, hij, hjV, h1, h2, hk, h⟩ := hrel
    by_cases hlt : i < j
    · obtain ⟨q, hq⟩ : ∃ q, (i + j) / 2 = q := ⟨_, rfl⟩
      have hiq : i ≤ q ∧ q < j := by omega
      have hBn : B ≤ n := HA.out.2.2.2.1
      have hMB : M + 1 = B := HA.out.2.2.1
      have hMV : A + U.length = M := HA.out.2.1
      have hltI : (i : Int) < (j : Int) := by omega
      have hqI : (0 : Int) ≤ q ∧ (q : Int) < n ∧ (0 : Int) ≤ i ∧ (0 : Int) ≤ j ∧ (j : Int) ≤ 1000 ∧ (i : Int) ≤ 1000 := by omega
      have hqd : ((i : Int) + (j : Int)) / 2 = (q : Int) := by omega
      have hqV : q - A < U.length := by omega
      obtain ⟨u, hu⟩ : ∃ u, el U (q - A) = u := ⟨_, rfl⟩
      have eu : el D q = u := by rw [← hu, ← HU.out (q - A) hqV]; congr 1; omega
      have hlD := HLD.out
      have hMn : M < n := by omega
      have su1 := HSM.out u (by rw [← eu]; exact el_mem (by omega))
      have sv1 := HSM.out v (by rw [← HV.out]; exact el_mem (by omega))
      have HUU := Lib.hid (⟨hu, hqV, hiq, hMi, hij, hjV⟩ : _ ∧ _ ∧ _ ∧ _ ∧ _ ∧ _)
      have HVV := HV.out
      obtain ⟨vw, vA, vn, vc⟩ := v
      obtain ⟨uw, uA, un, uc⟩ := u
      replace sv1 : 0 ≤ vw ∧ vw ≤ 4294967296 := sv1
      replace su1 : 0 ≤ uw ∧ uw ≤ 4294967296 := su1
      have H2 := Lib.hid (⟨hMn, by omega, HVV, eu⟩ : M < n ∧ q < n ∧ el D M = (vw, vA, vn, vc) ∧ el D q = (uw, uA, un, uc))
      obtain ⟨d, hd⟩ : ∃ d, vw - uw = d := ⟨_, rfl⟩
      have HC := Lib.hid (⟨hd, sv1, su1⟩ : vw - uw = d ∧ (0 ≤ vw ∧ vw ≤ 4294967296) ∧ (0 ≤ uw ∧ uw ≤ 4294967296))
      have HDB : Hid (d < 0 ↔ vw < uw) := by show _ ↔ _; omega
      obtain ⟨a0, a1, b0, b1, -⟩ := TwoS.of H2 h
      clear hd sv1 su1 eu hu hqV hiq hMi hij hjV hlD hMn HVV hBn hMV hMB hlt
      go_wp2_with fail
      by_cases hd0 : d < 0
      · go_region_held3 (fun w' => w'.cell? ⟨g, M * 2, none⟩ = some (.int .i64 vw) ∧ w'.cell? ⟨g, M * 2 + 1, none⟩ = some (.slice vA vn vc) ∧ w'.cell? ⟨g, q * 2, none⟩ = some (.int .i64 uw) ∧ w'.cell? ⟨g, q * 2 + 1, none⟩ = some (.slice uA un uc) ∧ Dt w0 g n D w')
          (first | exact TwoS.of H2 hh5 | exact TwoS.of H2 h | exact TwoS.of H2 h.drew)
          (first | (go_at_call 89; (refine (cmp_dt (by first | exact h | exact h.drew) _ _ HC).mono ?_); rintro e w5 ⟨rfl, hh5⟩))
        clear a0 a1 b0 b1 h
        go_wp2_with fail
        go_roundg (q - i)
        case measure => have := hk.out; have := HUU.out.2.2.1; omega
        case rel =>
          obtain ⟨hu, hqV, hiq, hMi, hij, hjV⟩ := HUU.out
          refine ⟨i, q, rfl, rfl, hMi, by omega, by omega, h1, fun p hp => ?_, rfl, hh5⟩
          have := srt_drop HUS.out.1 hqV p hp
          rw [hu] at this
          exact LeE.trans (.inl (HDB.out.1 hd0)) this
      · have hd1 : decide (d < 0) = false := by simp; omega
        go_region_held3 (fun w' => w'.cell? ⟨g, M * 2, none⟩ = some (.int .i64 vw) ∧ w'.cell? ⟨g, M * 2 + 1, none⟩ = some (.slice vA vn vc) ∧ w'.cell? ⟨g, q * 2, none⟩ = some (.int .i64 uw) ∧ w'.cell? ⟨g, q * 2 + 1, none⟩ = some (.slice uA un uc) ∧ Dt w0 g n D w')
          (first | exact TwoS.of H2 hh5 | exact TwoS.of H2 h | exact TwoS.of H2 h.drew)
          (first | (go_at_call 89; (refine (cmp_dt (by first | exact h | exact h.drew) _ _ HC).mono ?_); rintro e w5 ⟨rfl, hh5⟩))
        clear a0 a1 b0 b1 h
        go_wp2_with fail
        go_roundg (j - (q + 1))
        case measure => have := hk.out; have := HUU.out.2.2.1; omega
        case rel =>
          obtain ⟨hu, hqV, hiq, hMi, hij, hjV⟩ := HUU.out
          refine ⟨q + 1, j, by go_num, rfl, by omega, by omega, hjV, fun p hp => ?_, h2, rfl, hh5⟩
          rw [show q + 1 - A = q - A + 1 by omega] at hp
          have := srt_take HUS.out.1 hqV p hp
          rw [hu] at this
          have h8 := HSE.out _ hqV
          rw [hu] at h8
          exact this.trans (LeE.of_le (by have h9 := HDB.out; show uw ≤ vw; omega) h8)
    · obtain rfl : i = j := by omega
      obtain ⟨s, hs⟩ : ∃ s, i - A = s := ⟨_, rfl⟩
      have his : i = A + s := by omega
      have hiI : (0 : Int) ≤ i ∧ (i : Int) ≤ 1000 := by have := HA.out; omega
      have hsU : s ≤ U.length := by omega
      have hMe : M = A + U.length := HA.out.2.1.symm
      have hini : Hid (S2M w0 g n X U Y v A s (U.length - s) (.int .i64 M) wr) := ⟨U.length, D, by rw [hMe], hsU, Nat.le_refl _, by show D = _; rw [HD.out]; simp, rfl, h⟩
      rw [hs] at h1 h2
      have HI := Lib.hid (⟨his, hs, hMi, hjV⟩ : _ ∧ _ ∧ _ ∧ _)
      clear his hs hij hMi hjV hlt h hsU hMe
      go_wp2_with fail
      go_loopg [17] (U.length - s) (S2M w0 g n X U Y v A s)
      case atStart => exact hini.out
      case round =>
        clear hini
        obtain ⟨t, D1, rfl, hts, htU, hD1, hk3, h⟩ := hrel
        have hl1 := h.len
        have hBn := HA.out
        have hi4 := HI.out
        by_cases htl : s < t
        · obtain ⟨r, rfl⟩ : ∃ r, t = r + 1 := ⟨t - 1, by omega⟩
          have htV : r < U.length := by omega
          obtain ⟨p, hp⟩ : ∃ p, A + r = p := ⟨_, rfl⟩
          obtain ⟨p1, hp1⟩ : ∃ p1, A + (r + 1) = p1 := ⟨_, rfl⟩
          obtain ⟨y, hy⟩ : ∃ y, el U r = y := ⟨_, rfl⟩
          have hdr : U.drop r = y :: U.drop (r + 1) := by rw [List.drop_eq_getElem_cons htV, ← hy]; simp [el, htV]
          have htk : U.take (r + 1) = U.take r ++ [y] := by rw [List.take_succ_eq_append_getElem htV, ← hy]; simp [el, htV]
          have e0 : D1 = (X ++ U.take r) ++ y :: ([] ++ v :: (U.drop (r + 1) ++ Y)) := by rw [hD1.out, htk]; simp
          have l1 : (X ++ U.take r).length = p := by rw [List.length_append, List.length_take]; omega
          have ey : el D1 p = y := by rw [e0]; exact el_mid l1.symm
          have ex : el D1 p1 = v := by
            rw [e0, show (X ++ U.take r) ++ y :: ([] ++ v :: (U.drop (r + 1) ++ Y)) = ((X ++ U.take r) ++ [y]) ++ v :: (U.drop (r + 1) ++ Y) by simp]
            exact el_mid (by rw [List.length_append, l1, List.length_singleton]; omega)
          obtain ⟨xw, xA, xn, xc⟩ := v
          obtain ⟨yw, yA, yn, yc⟩ := y
          have H2 := Lib.hid (⟨by omega, by omega, ex, ey⟩ : p1 < n ∧ p < n ∧ el D1 p1 = (xw, xA, xn, xc) ∧ el D1 p = (yw, yA, yn, yc))
          obtain ⟨a0, a1, b0, b1, -⟩ := TwoS.of H2 h
          have za0 := h.z (i := p * 2) (by omega)
          have za1 := h.z (i := p * 2 + 1) (by omega)
          have zb0 := h.z (i := p1 * 2) (by omega)
          have zb1 := h.z (i := p1 * 2 + 1) (by omega)
          obtain ⟨z0, c1, z1, c2, z2, c3, z3⟩ := h.stores H2.out.1 H2.out.2.1 (.int .i64 yw) (.slice yA yn yc) (.int .i64 xw)
          have hne2 : ¬ p1 * 2 = p * 2 := by omega
          have hpI : (0 : Int) ≤ p ∧ (p : Int) < n ∧ (0 : Int) ≤ p1 ∧ (p1 : Int) < n ∧ (i : Int) < (p1 : Int) := by omega
          have hsp : (p1 : Int) - 1 = (p : Int) := by omega
          have w1 : IntKind.i64.wrap ((p1 : Int) - 1) = (p : Int) := by rw [hsp]; exact wr_in (by omega)
          have w3 : IntKind.i64.wrap (p : Int) = (p : Int) := wr_in (by omega)
          have HE0 := Lib.hid (⟨e0, l1, hp, hp1, htl, hdr⟩ : _ ∧ _ ∧ _ ∧ _ ∧ _ ∧ _)
          rw [hp1]
          clear e0 l1 ex ey hp hp1 htl htk hdr htV hy hl1 hBn hi4 hts
          go_wp2_with fail
          go_region
          have h6 := (h.swp H2.out.1 H2.out.2.1 (by have := HE0.out; omega)).drew
          rw [H2.out.2.2.1, H2.out.2.2.2] at h6
          clear za0 za1 zb0 zb1 a0 a1 b0 b1 h w1 w3 z0 c1 z1 c2 z2 c3 z3 hne2
          all_goals
            go_wp2_with fail
            go_roundg (r - s)
            case measure => have := hk3.out; have := HE0.out.2.2.2.2.1; omega
            case rel =>
              obtain ⟨e0, l1, hp, hp1, htl, hdr⟩ := HE0.out
              refine ⟨r, _, by rw [hp], by omega, by omega, ?_, rfl, h6⟩
              show _ = _
              rw [swp_comm, e0, swp_mid l1.symm (by rw [l1, ← hp1, ← hp]; rfl), hdr]
              simp
        · obtain rfl : s = t := by omega
          have hpE : ¬ (i : Int) < ((A + s : Nat) : Int) := by omega
          obtain ⟨p, hp⟩ : ∃ p, A + s = p := ⟨_, rfl⟩
          rw [hp] at hpE ⊢
          clear hp htl hts hl1 hBn hi4 htU
          go_wp2_with fail
          go_end0
          rw [hD1.out] at h
          have hsrt := ins_srt (x := v) (U1 := U.take s) (U2 := U.drop s) (by rw [List.take_append_drop]; exact HUS.out.1) h2.out h1.out
          refine ⟨U.take s ++ v :: U.drop s, rfl, ?_, hsrt, ?_⟩
          · have e : X ++ ((U.take s ++ v :: U.drop s) ++ Y) = X ++ (U.take s ++ v :: (U.drop s ++ Y)) := by simp
            rw [e]; exact h
          · refine List.perm_middle.trans ?_
            rw [List.take_append_drop]
            exact (List.perm_append_comm (l₁ := U) (l₂ := [v])).symm
end Go.Proofs.Ytlgkiookobedcaa
