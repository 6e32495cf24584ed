/-
  The walks of the library's exchange of blocks: swapRange, rotate.
-/
import Derived.Test.YtbllgifmidnkhaaSrtM
namespace Go.Proofs.Ytbllgifmidnkhaa
open Go.RowKit
set_option linter.unusedVariables false
theorem wr_in {x : Int} (h : -1000000 ≤ x ∧ x ≤ 1000000) : IntKind.i64.wrap x = x := IntWalk.i64_in _ (by omega)
/-- the row reads so -/
def MvPost (w0 : World) (g n : Nat) (D : List El) (e : Ending) (w' : World) : Prop := e = .returned (.tuple #[]) ∧ Dt w0 g n D w'
def SwrR (w0 : World) (g n : Nat) (X P Q R Y : List El) (k : Nat) (v10 : Value) (wr : World) : Prop :=
  ∃ i P1 P2 R1 R2 D, v10 = .int .i64 (i : Nat) ∧ Hid (P = P1 ++ P2 ∧ R = R1 ++ R2 ∧ P1.length = i ∧ R1.length = i) ∧ Hid (D = X ++ (R1 ++ (P2 ++ (Q ++ (P1 ++ (R2 ++ Y)))))) ∧ Dt w0 g n D wr ∧ Hid (k = P2.length) ∧ i + P2.length = P.length
set_option maxRecDepth 100000 in
set_option maxHeartbeats 4000000 in
theorem swr_any (w w0 : World) (g n c : Nat) (X P Q R Y D : List El) (hD : D = X ++ (P ++ (Q ++ (R ++ Y)))) (hPR : P.length = R.length) (h : Dt w0 g n D w) (hn : n ≤ 1000) (A B N : Nat) (hA : X.length = A) (hB : X.length + P.length + Q.length = B) (hN : P.length = N) (F : Value) :
    Calls Try.prog 28 #[.slice (some ⟨g, 0, none⟩) n c, .int .i64 A, .int .i64 B, .int .i64 N, F] w (MvPost w0 g n (X ++ (R ++ (Q ++ (P ++ Y))))) := by
  have hlen := h.len
  have hln : A + P.length + Q.length + R.length ≤ n := by rw [← hlen, hD]; simp only [List.length_append]; omega
  have hini : Hid (SwrR w0 g n X P Q R Y N (.int .i64 0) w) := ⟨0, [], P, [], R, D, rfl, ⟨rfl, rfl, rfl, rfl⟩, by show D = _; rw [hD]; simp, h, hN.symm, Nat.zero_add _⟩
  have HA := Lib.hid hA
  have HB := Lib.hid hB
  have HN := Lib.hid hN
  have HL := Lib.hid hln
  have HPR := Lib.hid hPR
  have hbI : (0 : Int) ≤ A ∧ (A : Int) ≤ 1000 ∧ (0 : Int) ≤ B ∧ (B : Int) ≤ 1000 ∧ (0 : Int) ≤ N ∧ (N : Int) ≤ 1000 := by omega
  clear hD hPR h hlen hln hA hB hN
  go_enter Try.func28, Try.ntmps28
  go_wp2_with fail
  go_loopg [10] N (SwrR w0 g n X P Q R Y)
  case atStart => exact hini.out
  case round =>
    clear hini
    obtain ⟨i, P1, P2, R1, R2, D, rfl, hp, hD, h, hk, hi⟩ := hrel
    cases P2 with
    | nil =>
      have hiN : ¬ (i : Int) < (N : Int) := by have := HN.out; simp at hi; omega
      have hR2 : R2 = [] := List.eq_nil_of_length_eq_zero (by
        have h1 := congrArg List.length hp.out.2.1
        rw [List.length_append] at h1
        have := hp.out.2.2.2; have := HPR.out; simp at hi; omega)
      subst hR2
      clear hi
      go_wp2_with fail
      go_end0
      have e1 : P = P1 := by have := hp.out.1; rwa [List.append_nil] at this
      have e2 : R = R1 := by have := hp.out.2.1; rwa [List.append_nil] at this
      rw [hD.out] at h
      rw [e1, e2]
      exact ⟨rfl, h⟩
    | cons x P2 =>
      have hlR := congrArg List.length hp.out.2.1
      rw [List.length_append, hp.out.2.2.2] at hlR
      cases R2 with
      | nil => have := HPR.out; simp at hi hlR; omega
      | cons y R2 =>
        rw [List.length_cons] at hi hlR
        obtain ⟨p, hp1⟩ : ∃ p, A + i = p := ⟨_, rfl⟩
        obtain ⟨q, hq1⟩ : ∃ q, B + i = q := ⟨_, rfl⟩
        have e0 : D = (X ++ R1) ++ x :: ((P2 ++ (Q ++ P1)) ++ y :: (R2 ++ Y)) := by rw [hD.out]; simp
        have l1 : (X ++ R1).length = p := by rw [List.length_append, HA.out, hp.out.2.2.2]; exact hp1
        have l2 : (X ++ R1).length + 1 + (P2 ++ (Q ++ P1)).length = q := by
          rw [l1, List.length_append, List.length_append, hp.out.2.2.1]
          have := HB.out; have := HA.out; omega
        have ex : el D p = x := by rw [e0]; exact el_mid l1.symm
        have ey : el D q = y := by
          rw [e0, show (X ++ R1) ++ x :: ((P2 ++ (Q ++ P1)) ++ y :: (R2 ++ Y)) = ((X ++ R1) ++ x :: (P2 ++ (Q ++ P1))) ++ y :: (R2 ++ Y) by simp]
          exact el_mid (by rw [List.length_append, List.length_cons]; omega)
        have hqn : q < n := by have h1 := h.len; rw [e0] at h1; simp only [List.length_append, List.length_cons] at h1 l2; omega
        have hpq : p < q := by omega
        obtain ⟨xw, xA, xn, xc⟩ := x
        obtain ⟨yw, yA, yn, yc⟩ := y
        have H2 := Lib.hid (⟨by omega, hqn, ex, ey⟩ : p < n ∧ q < n ∧ el D p = (xw, xA, xn, xc) ∧ el D q = (yw, yA, yn, yc))
        obtain ⟨a0, a1, b0, b1, -⟩ := TwoS.of H2 h
        have za0 := h.z (i := p * 2) (by omega)
        have za1 := h.z (i := p * 2 + 1) (by omega)
        have zb0 := h.z (i := q * 2) (by omega)
        have zb1 := h.z (i := q * 2 + 1) (by omega)
        obtain ⟨z0, c1, z1, c2, z2, c3, z3⟩ := h.stores H2.out.1 H2.out.2.1 (.int .i64 yw) (.slice yA yn yc) (.int .i64 xw)
        have hne2 : ¬ p * 2 = q * 2 := by omega
        have hiI : (0 : Int) ≤ i ∧ (i : Int) < N ∧ (0 : Int) ≤ p ∧ (p : Int) < n ∧ (0 : Int) ≤ q ∧ (q : Int) < n := by have := HN.out; omega
        have hsp : (A : Int) + (i : Int) = (p : Int) := by omega
        have hsq : (B : Int) + (i : Int) = (q : Int) := by omega
        have w1 : IntKind.i64.wrap ((A : Int) + (i : Int)) = (p : Int) := by rw [hsp]; exact wr_in (by omega)
        have w2 : IntKind.i64.wrap ((B : Int) + (i : Int)) = (q : Int) := by rw [hsq]; exact wr_in (by omega)
        have w3 : IntKind.i64.wrap (p : Int) = (p : Int) := wr_in (by omega)
        have w4 : IntKind.i64.wrap (q : Int) = (q : Int) := wr_in (by omega)
        have HE0 := Lib.hid (⟨e0, l1, l2, hpq, hi⟩ : _ ∧ _ ∧ _ ∧ _ ∧ _)
        clear e0 l1 l2 hpq ex ey hqn hi hlR hp1 hq1
        go_wp2_with fail
        go_region
        have h6 := (h.swp H2.out.1 H2.out.2.1 (by have := HE0.out.2.2.2.1; omega)).drew
        rw [H2.out.2.2.1, H2.out.2.2.2] at h6
        clear za0 za1 zb0 zb1 a0 a1 b0 b1 h w1 w2 w3 w4 z0 c1 z1 c2 z2 c3 z3 hne2
        all_goals
          go_wp2_with fail
          go_roundg P2.length
          case measure => have := hk.out; rw [List.length_cons] at this; omega
          case rel =>
            obtain ⟨e0, l1, l2, hpq, hi⟩ := HE0.out
            refine ⟨i + 1, P1 ++ [(xw, xA, xn, xc)], P2, R1 ++ [(yw, yA, yn, yc)], R2, _, by go_num, ?_, ?_, h6, rfl, by omega⟩
            · obtain ⟨g1, g2, g3, g4⟩ := hp.out
              exact ⟨by rw [g1]; simp, by rw [g2]; simp, by rw [List.length_append, g3]; rfl, by rw [List.length_append, g4]; rfl⟩
            · show _ = _
              rw [e0, swp_mid l1.symm l2.symm]
              simp
def RotR (w0 : World) (g n M : Nat) (G : List El) (k : Nat) (v10 v11 : Value) (wr : World) : Prop :=
  ∃ (i j : Nat) (X U V Y D : List El), v10 = .int .i64 i ∧ v11 = .int .i64 j ∧ Hid (U.length = i ∧ V.length = j ∧ X.length + i = M) ∧ Hid (D = X ++ (U ++ (V ++ Y))) ∧ Dt w0 g n D wr ∧ Hid (X ++ (V ++ (U ++ Y)) = G) ∧ 0 < i ∧ 0 < j ∧ Hid (k = i + j) ∧ i + j ≤ n ∧ M + j ≤ n
set_option maxRecDepth 100000 in
set_option maxHeartbeats 4000000 in
theorem rot_any (w w0 : World) (g n c : Nat) (X U V Y D : List El) (hD : D = X ++ (U ++ (V ++ Y))) (h : Dt w0 g n D w) (hn : n ≤ 1000) (A M B : Nat) (hA : X.length = A) (hM : X.length + U.length = M) (hB : X.length + U.length + V.length = B) (hU : 0 < U.length) (hV : 0 < V.length) :
    Calls Try.prog 27 #[.slice (some ⟨g, 0, none⟩) n c, .int .i64 A, .int .i64 M, .int .i64 B, cmpF] w (MvPost w0 g n (X ++ (V ++ (U ++ Y)))) := by
  have hlen := h.len
  have hln : A + U.length + V.length ≤ n := by rw [← hlen, hD]; simp only [List.length_append]; omega
  obtain ⟨i0, hi0⟩ : ∃ i, U.length = i := ⟨_, rfl⟩
  obtain ⟨j0, hj0⟩ : ∃ j, V.length = j := ⟨_, rfl⟩
  have hini : Hid (RotR w0 g n M (X ++ (V ++ (U ++ Y))) (i0 + j0) (.int .i64 i0) (.int .i64 j0) w) := ⟨i0, j0, X, U, V, Y, D, rfl, rfl, ⟨hi0, hj0, by omega⟩, hD, h, rfl, by omega, by omega, rfl, by omega, by omega⟩
  have hbI : (0 : Int) ≤ A ∧ (A : Int) ≤ 1000 ∧ (0 : Int) ≤ B ∧ (B : Int) ≤ 1000 ∧ (0 : Int) ≤ M ∧ (M : Int) ≤ 1000 := by omega
  have s1 : (M : Int) - (A : Int) = (i0 : Int) := by omega
  have s2 : (B : Int) - (M : Int) = (j0 : Int) := by omega
  have hnI : (n : Int) ≤ 1000 := by omega
  clear hD h hlen hln hA hB hM hU hV hi0 hj0 hn
  unfold cmpF
  go_enter Try.func27, Try.ntmps27
  go_wp2_with fail
  go_loopg [10, 11] (i0 + j0) (RotR w0 g n M (X ++ (V ++ (U ++ Y))))
  case atStart => exact hini.out
  case round =>
    clear hini s1 s2
    obtain ⟨i, j, X, U, V, Y, D, rfl, rfl, hl, hD, h, hG, hi, hj, hk, hij, hMj⟩ := hrel
    obtain ⟨A', hA'⟩ : ∃ A', X.length = A' := ⟨_, rfl⟩
    have hAM : A' + i = M := by have := hl.out.2.2; omega
    have hsA : (M : Int) - (i : Int) = (A' : Int) := by omega
    have hiI : (0 : Int) ≤ i ∧ (i : Int) ≤ 1000 ∧ (0 : Int) ≤ j ∧ (j : Int) ≤ 1000 ∧ (0 : Int) ≤ A' ∧ (A' : Int) ≤ 1000 := by omega
    have HA := Lib.hid hA'
    have HAM := Lib.hid hAM
    have HIJ := Lib.hid (⟨hi, hj, hij, hMj⟩ : _ ∧ _ ∧ _ ∧ _)
    rcases Nat.lt_trichotomy i j with hlt | heq | hgt
    · -- the second one is longer
      obtain ⟨V1, V2, hV, hV1⟩ : ∃ V1 V2, V = V1 ++ V2 ∧ V1.length = j - i := ⟨V.take (j - i), V.drop (j - i), (List.take_append_drop ..).symm, by rw [List.length_take, hl.out.2.1]; omega⟩
      have hV2 : V2.length = i := by have := hl.out.2.1; rw [hV, List.length_append] at this; omega
      obtain ⟨B', hB'⟩ : ∃ B', M + j - i = B' := ⟨_, rfl⟩
      have HS := Lib.hid (swr_any wr w0 g n c X U V1 V2 Y D (by rw [hD.out, hV]; simp) (by rw [hl.out.1, hV2]) h (by omega) A' B' i hA' (by rw [hl.out.1, hV1]; omega) hl.out.1 (.func (.func 21) #[] #[]))
      have hc1 : ((i : Int) != (j : Int)) = true := by simp; omega
      have hc2 : ¬ (j : Int) < (i : Int) := by omega
      have hsB : (M : Int) + (j : Int) - (i : Int) = (B' : Int) := by omega
      obtain ⟨j', hj'⟩ : ∃ j', j - i = j' := ⟨_, rfl⟩
      have hsj : (j : Int) - (i : Int) = (j' : Int) := by omega
      have HV := Lib.hid (⟨hV, hV1, hV2, hj', hlt⟩ : _ ∧ _ ∧ _ ∧ _ ∧ _)
      clear hV hV1 hV2 hj' hlt hB' hi hj hij hMj hA' hAM h
      go_wp2_with fail
      refine HS.out.mono ?_
      rintro e w5 ⟨rfl, h5⟩
      go_wp2_with fail
      go_roundg (i + j')
      case measure => have := hk.out; have := HIJ.out; have := HV.out.2.2.2; omega
      case rel =>
        obtain ⟨hV, hV1, hV2, hj', hlt⟩ := HV.out
        refine ⟨i, j', X, V2, V1, U ++ Y, _, rfl, rfl, ⟨hV2, by rw [hV1, hj'], hl.out.2.2⟩, ?_, h5, ?_, HIJ.out.1, by omega, rfl, by have := HIJ.out; omega, by have := HIJ.out; omega⟩
        · show _ = _
          simp
        · show _ = _
          rw [← hG.out, hV]; simp
    · subst heq
      have HS := Lib.hid (swr_any wr w0 g n c X U [] V Y D (by rw [hD.out]; simp) (by rw [hl.out.1, hl.out.2.1]) h (by omega) A' M i hA' (by rw [hl.out.1]; simp; omega) hl.out.1 (.func (.func 21) #[] #[]))
      clear hi hj hij hMj hA' hAM h
      go_wp2_with fail
      refine HS.out.mono ?_
      rintro e w5 ⟨rfl, h5⟩
      go_wp2_with fail
      go_end0
      rw [List.nil_append, hG.out] at h5
      exact ⟨rfl, h5⟩
    · obtain ⟨U1, U2, hU, hU1⟩ : ∃ U1 U2, U = U1 ++ U2 ∧ U1.length = j := ⟨U.take j, U.drop j, (List.take_append_drop ..).symm, by rw [List.length_take, hl.out.1]; omega⟩
      have hU2 : U2.length = i - j := by have := hl.out.1; rw [hU, List.length_append] at this; omega
      have HS := Lib.hid (swr_any wr w0 g n c X U1 U2 V Y D (by rw [hD.out, hU]; simp) (by rw [hl.out.2.1, hU1]) h (by omega) A' M j hA' (by rw [hU1, hU2]; omega) hU1 (.func (.func 21) #[] #[]))
      have hc1 : ((i : Int) != (j : Int)) = true := by simp; omega
      have hc2 : (j : Int) < (i : Int) := by omega
      obtain ⟨i', hi'⟩ : ∃ i', i - j = i' := ⟨_, rfl⟩
      have hsi : (i : Int) - (j : Int) = (i' : Int) := by omega
      have HV := Lib.hid (⟨hU, hU1, hU2, hi', hgt⟩ : _ ∧ _ ∧ _ ∧ _ ∧ _)
      clear hU hU1 hU2 hi' hgt hi hj hij hMj hA' hAM h
      go_wp2_with fail
      refine HS.out.mono ?_
      rintro e w5 ⟨rfl, h5⟩
      go_wp2_with fail
      go_roundg (i' + j)
      case measure => have := hk.out; have := HIJ.out; have := HV.out.2.2.2; omega
      case rel =>
        obtain ⟨hU, hU1, hU2, hi', hgt⟩ := HV.out
        refine ⟨i', j, X ++ V, U2, U1, Y, _, rfl, rfl, ⟨by rw [hU2, hi'], hU1, ?_⟩, ?_, h5, ?_, by omega, HIJ.out.2.1, rfl, by have := HIJ.out; omega, by have := HIJ.out; omega⟩
        · have := hl.out; rw [List.length_append]; omega
        · show _ = _
          simp
        · show _ = _
          rw [← hG.out, hU]; simp
end Go.Proofs.Ytbllgifmidnkhaa
