/-
  Several texts in one (written by pack2.py): SrtS, SrtT, PckM.
-/
import Derived.Test.YtlgkiookobedcaaPk12
import Derived.Test.YtlgkiookobedcaaPk2
import Derived.Test.YtlgkiookobedcaaStep
namespace Go.Proofs.Ytlgkiookobedcaa
open Go.RowKit
set_option linter.unusedVariables false
theorem Sm.perm {D E : List El} (h : Sm D) (hp : E.Perm D) : Sm E := fun p hp' => h p (hp.mem_iff.1 hp')
def S3R (w0 : World) (g n : Nat) (D : List El) (lo hi P : Nat) (k : Nat) (v20 v21 : Value) (wr : World) : Prop :=
  ∃ i j : Nat, v20 = .int .i64 i ∧ v21 = .int .i64 j ∧ lo ≤ i ∧ i ≤ j ∧ j ≤ hi ∧ Hid (lo < i → LeE (el D (i - 1)) (el D (P - (i - 1)))) ∧ Hid (j < hi → LeE (el D (P - j)) (el D j)) ∧ Hid (k = j - i) ∧ Dt w0 g n D wr
def SymH (g n c K : Nat) : Prop := ∀ (w w0 : World) (X U V Y D : List El) (A M B : Nat), D = X ++ (U ++ (V ++ Y)) → Dt w0 g n D w → Sm D → X.length = A → A + U.length = M → M + V.length = B → SrtE U → SrtE V → Sep U V → 0 < U.length → 0 < V.length → U.length + V.length ≤ K →
  Calls Try.prog 95 #[.slice (some ⟨g, 0, none⟩) n c, .int .i64 A, .int .i64 M, .int .i64 B, cmpF] w (SortPost w0 g n X (U ++ V) Y)
def S3Z (w0 : World) (g n : Nat) (X W Y : List El) (wx : World) : Prop := ∃ Z, Dt w0 g n (X ++ (Z ++ Y)) wx ∧ SrtE Z ∧ Z.Perm W
set_option maxRecDepth 100000 in
set_option maxHeartbeats 8000000 in
theorem sym3_any (K : Nat) (w w0 : World) (g n c : Nat) (IH : SymH g n c K) (X U V Y D : List El) (A M B : Nat) (hD : D = X ++ (U ++ (V ++ Y))) (h : Dt w0 g n D w) (hn : n ≤ 1000) (hsm : Sm D) (hA : X.length = A) (hM : A + U.length = M) (hB : M + V.length = B) (hU : SrtE U) (hV : SrtE V) (hse : Sep U V) (hU0 : 1 < U.length) (hV0 : 1 < V.length) (hK : U.length + V.length ≤ K + 1) :
    Calls Try.prog 95 #[.slice (some ⟨g, 0, none⟩) n c, .int .i64 A, .int .i64 M, .int .i64 B, cmpF] w (SortPost w0 g n X (U ++ V) Y) := by
  have hlen := h.len
  have hBn : B ≤ n := by rw [← hlen, hD]; simp only [List.length_append]; omega
  obtain ⟨Mi, hMi⟩ : ∃ k, (A + B) / 2 = k := ⟨_, rfl⟩
  obtain ⟨Nn, hNn⟩ : ∃ k, Mi + M = k := ⟨_, rfl⟩
  obtain ⟨P, hP⟩ : ∃ k, Nn - 1 = k := ⟨_, rfl⟩
  obtain ⟨lo, hi, hlh⟩ : ∃ lo hi : Nat, (Mi < M ∧ lo = Nn - B ∧ hi = Mi) ∨ (M ≤ Mi ∧ lo = A ∧ hi = M) := by
    by_cases e : Mi < M
    · exact ⟨_, _, .inl ⟨e, rfl, rfl⟩⟩
    · exact ⟨_, _, .inr ⟨by omega, rfl, rfl⟩⟩
  obtain ⟨nu, hnu⟩ : ∃ k, U.length = k := ⟨_, rfl⟩
  obtain ⟨nv, hnv⟩ : ∃ k, V.length = k := ⟨_, rfl⟩
  have hs1 : (M : Int) - (A : Int) = (nu : Int) := by omega
  have hs2 : (B : Int) - (M : Int) = (nv : Int) := by omega
  have hnu1 : ((nu : Int) == 1) = false := by simp; omega
  have hnv1 : ((nv : Int) == 1) = false := by simp; omega
  have hmid : ((A : Int) + (B : Int)) / 2 = (Mi : Int) := by omega
  have hnn : (Mi : Int) + (M : Int) = (Nn : Int) := by omega
  have hpp : (Nn : Int) - 1 = (P : Int) := by omega
  have hbI : (0 : Int) ≤ A ∧ (A : Int) ≤ 1000 ∧ (0 : Int) ≤ B ∧ (B : Int) ≤ 1000 ∧ (0 : Int) ≤ M ∧ (M : Int) ≤ 1000 ∧ (0 : Int) ≤ Mi ∧ (Mi : Int) ≤ 1000 ∧ (0 : Int) ≤ Nn ∧ (Nn : Int) ≤ 2000 ∧ (0 : Int) ≤ P ∧ (P : Int) ≤ 2000 ∧ (n : Int) ≤ 1000 := by omega
  have hini : Hid (S3R w0 g n D lo hi P (hi - lo) (.int .i64 lo) (.int .i64 hi) w) := ⟨lo, hi, rfl, rfl, Nat.le_refl _, by omega, Nat.le_refl _, fun h => absurd h (Nat.lt_irrefl _), fun h => absurd h (Nat.lt_irrefl _), rfl, h⟩
  have hIH : ∀ (w w0 : World) (X U V Y D : List El) (A M B : Nat), D = X ++ (U ++ (V ++ Y)) → Dt w0 g n D w → Sm D → X.length = A → A + U.length = M → M + V.length = B → SrtE U → SrtE V → Sep U V → 0 < U.length → 0 < V.length → U.length + V.length ≤ K →
    Calls Try.prog 95 #[.slice (some ⟨g, 0, none⟩) n c, .int .i64 A, .int .i64 M, .int .i64 B, .func (.func 89) #[] #[]] w (SortPost w0 g n X (U ++ V) Y) := IH
  have hROT : ∀ (w w0 : World) (X U V Y D : List El) (A M B : Nat), D = X ++ (U ++ (V ++ Y)) → Dt w0 g n D w → X.length = A → X.length + U.length = M → X.length + U.length + V.length = B → 0 < U.length → 0 < V.length →
    Calls Try.prog 96 #[.slice (some ⟨g, 0, none⟩) n c, .int .i64 A, .int .i64 M, .int .i64 B, .func (.func 89) #[] #[]] w (MvPost w0 g n (X ++ (V ++ (U ++ Y)))) := fun w w0 X U V Y D A M B h1 h2 h3 h4 h5 h6 h7 => rot_any w w0 g n c X U V Y D h1 h2 hn A M B h3 h4 h5 h6 h7
  have HIH := Lib.hid hIH
  have HROT := Lib.hid hROT
  have HQ := Lib.hid (⟨hA, hM, hB, hBn, hn, hMi, hNn, hP, hlh, hU0, hV0, hK⟩ : X.length = A ∧ A + U.length = M ∧ M + V.length = B ∧ B ≤ n ∧ n ≤ 1000 ∧ (A + B) / 2 = Mi ∧ Mi + M = Nn ∧ Nn - 1 = P ∧ ((Mi < M ∧ lo = Nn - B ∧ hi = Mi) ∨ (M ≤ Mi ∧ lo = A ∧ hi = M)) ∧ 1 < U.length ∧ 1 < V.length ∧ U.length + V.length ≤ K + 1)
  have HD := Lib.hid hD
  have HS := Lib.hid (⟨hU, hV⟩ : _ ∧ _)
  have HSV := Lib.hid hse
  have HSE : Hid (∀ q r, A ≤ q → q < M → M ≤ r → r < B → ps (el D q) ≤ ps (el D r)) := fun q r h1 h2 h3 h4 => by
    have e1 : el D q = el U (q - A) := by
      rw [hD, show q = X.length + (q - A) by omega]
      rw [el_seg (by omega), show X.length + (q - A) - A = q - A by omega]
    have e2 : el D r = el V (r - M) := by
      rw [hD, show X ++ (U ++ (V ++ Y)) = (X ++ U) ++ (V ++ Y) by simp, show r = (X ++ U).length + (r - M) by rw [List.length_append]; omega]
      rw [el_seg (by omega), show (X ++ U).length + (r - M) - M = r - M by rw [List.length_append]; omega]
    rw [e1, e2]
    exact hse _ (el_mem (by omega)) _ (el_mem (by omega))
  have HSM := Lib.hid hsm
  have HLD := Lib.hid hlen
  have hlhI : ((Mi : Int) < (M : Int) ∧ (Nn : Int) - (B : Int) = (lo : Int) ∧ hi = Mi) ∨ (¬ (Mi : Int) < (M : Int) ∧ lo = A ∧ hi = M) := by
    rcases hlh with ⟨h1, h2, h3⟩ | ⟨h1, h2, h3⟩
    · exact .inl ⟨by omega, by omega, h3⟩
    · exact .inr ⟨by omega, h2, h3⟩
  have HLH := Lib.hid hlhI
  have hloI : (0 : Int) ≤ lo ∧ (lo : Int) ≤ 1000 ∧ (0 : Int) ≤ hi ∧ (hi : Int) ≤ 1000 := by omega
  clear hA hM hB hBn hn hMi hNn hP hlh hU0 hV0 hK hD hU hV hsm hlen h hIH hROT IH hlhI hnu hnv hse
  unfold cmpF
  go_enter Try.func95, Try.ntmps95
  go_upto_if 140 with fail
  go_cut [20, 21] (fun v20 v21 wx => v20 = .int .i64 (lo : Nat) ∧ v21 = .int .i64 (hi : Nat) ∧ wx = w)
  case first =>
    as_aux_lemma =>
      rcases HLH.out with ⟨h1, h2, rfl⟩ | ⟨h1, rfl, rfl⟩
      · go_wp2_with fail
        all_goals go_meet
        all_goals exact ⟨rfl, rfl, rfl⟩
      · go_wp2_with fail
        all_goals go_meet
        all_goals exact ⟨rfl, rfl, rfl⟩
  case rest =>
    obtain ⟨rfl, rfl, rfl⟩ := hcut
    clear hs1 hs2 hnu1 hnv1 hmid hnn
    go_wp2_with fail
    go_loopg [20, 21] (hi - lo) (S3R w0 g n D lo hi P)
    case atStart => exact hini.out
    case round =>
      clear hini
      obtain ⟨i, j, rfl, rfl, hli, hij, hjh, h1, h2, hk, h⟩ := hrel
      by_cases hlt : i < j
      · as_aux_lemma =>
          obtain ⟨q, hq⟩ : ∃ q, (i + j) / 2 = q := ⟨_, rfl⟩
          obtain ⟨r, hr⟩ : ∃ r, P - q = r := ⟨_, rfl⟩
          have hiq : i ≤ q ∧ q < j := by omega
          have hb : q < n ∧ r < n ∧ q ≤ P ∧ (n : Int) ≤ 1000 := by
            obtain ⟨hA, hM, hB, hBn, hn, hMi, hNn, hP, hlh, hU0, hV0, hK⟩ := HQ.out
            rcases hlh with ⟨g1, g2, g3⟩ | ⟨g1, g2, g3⟩ <;> omega
          obtain ⟨hqn, hrn, hqP, hnI⟩ := hb
          have hltI : (i : Int) < (j : Int) := by omega
          have hqI : (0 : Int) ≤ q ∧ (q : Int) < n ∧ (0 : Int) ≤ r ∧ (r : Int) < n ∧ (0 : Int) ≤ i ∧ (0 : Int) ≤ j ∧ (j : Int) ≤ 1000 ∧ (i : Int) ≤ 1000 := by omega
          have hqd : ((i : Int) + (j : Int)) / 2 = (q : Int) := by omega
          have hsr : (P : Int) - (q : Int) = (r : Int) := by omega
          have w1 : IntKind.i64.wrap ((P : Int) - (q : Int)) = (r : Int) := by rw [hsr]; exact wr_in (by omega)
          have w2 : IntKind.i64.wrap (r : Int) = (r : Int) := wr_in (by omega)
          obtain ⟨x, hx⟩ : ∃ x, el D r = x := ⟨_, rfl⟩
          obtain ⟨y, hy⟩ : ∃ y, el D q = y := ⟨_, rfl⟩
          have hlD := HLD.out
          have sx := HSM.out x (by rw [← hx]; exact el_mem (by omega))
          have sy := HSM.out y (by rw [← hy]; exact el_mem (by omega))
          have HE := Lib.hid (⟨hiq, hli, hij, hjh, hr⟩ : _ ∧ _ ∧ _ ∧ _ ∧ _)
          obtain ⟨xw, xA, xn, xc⟩ := x
          obtain ⟨yw, yA, yn, yc⟩ := y
          replace sx : 0 ≤ xw ∧ xw ≤ 4294967296 := sx
          replace sy : 0 ≤ yw ∧ yw ≤ 4294967296 := sy
          have H2 := Lib.hid (⟨hrn, hqn, hx, hy⟩ : r < n ∧ q < n ∧ el D r = (xw, xA, xn, xc) ∧ el D q = (yw, yA, yn, yc))
          obtain ⟨d, hd⟩ : ∃ d, xw - yw = d := ⟨_, rfl⟩
          have HC := Lib.hid (⟨hd, sx, sy⟩ : xw - yw = d ∧ (0 ≤ xw ∧ xw ≤ 4294967296) ∧ (0 ≤ yw ∧ yw ≤ 4294967296))
          have HDB : Hid (d < 0 ↔ xw < yw) := by show _ ↔ _; omega
          obtain ⟨a0, a1, b0, b1, -⟩ := TwoS.of H2 h
          clear hd sx sy hx hy hiq hli hij hjh hlD hrn hqn hqP hlt hr
          go_wp2_with fail
          by_cases hd0 : d < 0
          · go_region_held3 (fun w' => w'.cell? ⟨g, r * 2, none⟩ = some (.int .i64 xw) ∧ w'.cell? ⟨g, r * 2 + 1, none⟩ = some (.slice xA xn xc) ∧ w'.cell? ⟨g, q * 2, none⟩ = some (.int .i64 yw) ∧ w'.cell? ⟨g, q * 2 + 1, none⟩ = some (.slice yA yn yc) ∧ Dt w0 g n D w')
              (first | exact TwoS.of H2 hh5 | exact TwoS.of H2 h | exact TwoS.of H2 h.drew)
              (first | (go_at_call 89; (refine (cmp_dt (by first | exact h | exact h.drew) _ _ HC).mono ?_); rintro e w5 ⟨rfl, hh5⟩))
            clear a0 a1 b0 b1 h
            go_wp2_with fail
            go_roundg (q - i)
            case measure => have := hk.out; have := HE.out.1; omega
            case rel =>
              obtain ⟨hiq, hli, hij, hjh, hr⟩ := HE.out
              refine ⟨i, q, rfl, rfl, hli, by omega, by omega, h1, fun _ => ?_, rfl, hh5⟩
              rw [hr, H2.out.2.2.1, H2.out.2.2.2]
              exact .inl (HDB.out.1 hd0)
          · have hd1 : decide (d < 0) = false := by simp; omega
            go_region_held3 (fun w' => w'.cell? ⟨g, r * 2, none⟩ = some (.int .i64 xw) ∧ w'.cell? ⟨g, r * 2 + 1, none⟩ = some (.slice xA xn xc) ∧ w'.cell? ⟨g, q * 2, none⟩ = some (.int .i64 yw) ∧ w'.cell? ⟨g, q * 2 + 1, none⟩ = some (.slice yA yn yc) ∧ Dt w0 g n D w')
              (first | exact TwoS.of H2 hh5 | exact TwoS.of H2 h | exact TwoS.of H2 h.drew)
              (first | (go_at_call 89; (refine (cmp_dt (by first | exact h | exact h.drew) _ _ HC).mono ?_); rintro e w5 ⟨rfl, hh5⟩))
            clear a0 a1 b0 b1 h
            go_wp2_with fail
            go_roundg (j - (q + 1))
            case measure => have := hk.out; have := HE.out.1; omega
            case rel =>
              obtain ⟨hiq, hli, hij, hjh, hr⟩ := HE.out
              refine ⟨q + 1, j, by go_num, rfl, by omega, by omega, hjh, fun _ => ?_, h2, rfl, hh5⟩
              rw [Nat.add_sub_cancel, hr, H2.out.2.2.1, H2.out.2.2.2]
              have h8 := HSE.out q r (by obtain ⟨hA, hM, hB, hBn, hn, hMi, hNn, hP, hlh, hU0, hV0, hK⟩ := HQ.out; rcases hlh with ⟨g1, g2, g3⟩ | ⟨g1, g2, g3⟩ <;> omega) (by obtain ⟨hA, hM, hB, hBn, hn, hMi, hNn, hP, hlh, hU0, hV0, hK⟩ := HQ.out; rcases hlh with ⟨g1, g2, g3⟩ | ⟨g1, g2, g3⟩ <;> omega) (by obtain ⟨hA, hM, hB, hBn, hn, hMi, hNn, hP, hlh, hU0, hV0, hK⟩ := HQ.out; rcases hlh with ⟨g1, g2, g3⟩ | ⟨g1, g2, g3⟩ <;> omega) (by obtain ⟨hA, hM, hB, hBn, hn, hMi, hNn, hP, hlh, hU0, hV0, hK⟩ := HQ.out; rcases hlh with ⟨g1, g2, g3⟩ | ⟨g1, g2, g3⟩ <;> omega)
              rw [H2.out.2.2.1, H2.out.2.2.2] at h8
              exact LeE.of_le (by have := HDB.out; show yw ≤ xw; omega) h8
      · obtain ⟨s, rfl⟩ : ∃ s, i = s := ⟨i, rfl⟩
        obtain rfl : i = j := by omega
        obtain ⟨E, hE⟩ : ∃ E, Nn - i = E := ⟨_, rfl⟩
        have hf : A ≤ i ∧ i ≤ M ∧ i ≤ Mi ∧ Mi ≤ E ∧ E ≤ B ∧ M ≤ E ∧ E = Mi + (M - i) ∧ Mi + M = E + i ∧ A < Mi ∧ Mi < B ∧ i ≤ Nn := by
          obtain ⟨hA, hM, hB, hBn, hn, hMi, hNn, hP, hlh, hU0, hV0, hK⟩ := HQ.out
          rcases hlh with ⟨g1, g2, g3⟩ | ⟨g1, g2, g3⟩ <;> omega
        obtain ⟨f1, f2, f3, f4, f5, f6, f7, f8, f9, f10, f11⟩ := hf
        obtain ⟨U1, U2, hU12, hU1⟩ : ∃ U1 U2, U = U1 ++ U2 ∧ U1.length = i - A := ⟨U.take (i - A), U.drop (i - A), (List.take_append_drop ..).symm, by rw [List.length_take]; have := HQ.out; omega⟩
        obtain ⟨V1, V2, hV12, hV1⟩ : ∃ V1 V2, V = V1 ++ V2 ∧ V1.length = E - M := ⟨V.take (E - M), V.drop (E - M), (List.take_append_drop ..).symm, by rw [List.length_take]; have := HQ.out; omega⟩
        have hU2 : U2.length = M - i := by have := HQ.out.2.1; rw [hU12, List.length_append] at this; omega
        have hV2 : V2.length = B - E := by have := HQ.out.2.2.1; rw [hV12, List.length_append] at this; omega
        have hXl : X.length = A := HQ.out.1
        have e0 : D = (X ++ U1) ++ (U2 ++ (V1 ++ (V2 ++ Y))) := by rw [HD.out, hU12, hV12]; simp
        have lXU : (X ++ U1).length = i := by rw [List.length_append]; omega
        have c1 : 0 < U1.length → 0 < V2.length → LeE (el U1 (U1.length - 1)) (el V2 0) := fun g1 g2 => by
          have hlo : lo < i := by
            obtain ⟨hA, hM, hB, hBn, hn, hMi, hNn, hP, hlh, hU0, hV0, hK⟩ := HQ.out
            rcases hlh with ⟨k1, k2, k3⟩ | ⟨k1, k2, k3⟩ <;> omega
          have h9 := h1.out hlo
          have hPE : P - (i - 1) = E := by have := HQ.out; omega
          have ea : el D (i - 1) = el U1 (U1.length - 1) := by
            rw [e0, show (X ++ U1) ++ (U2 ++ (V1 ++ (V2 ++ Y))) = X ++ (U1 ++ (U2 ++ (V1 ++ (V2 ++ Y)))) by simp, show i - 1 = X.length + (U1.length - 1) by omega]
            exact el_seg (by omega)
          have eb : el D E = el V2 0 := by
            have lx : (((X ++ U1) ++ U2) ++ V1).length = E := by simp only [List.length_append]; omega
            rw [e0, show (X ++ U1) ++ (U2 ++ (V1 ++ (V2 ++ Y))) = (((X ++ U1) ++ U2) ++ V1) ++ (V2 ++ Y) by simp, show E = (((X ++ U1) ++ U2) ++ V1).length + 0 by omega]
            exact el_seg g2
          rw [hPE, ea, eb] at h9
          exact h9
        have c2 : 0 < V1.length → 0 < U2.length → LeE (el V1 (V1.length - 1)) (el U2 0) := fun g1 g2 => by
          have hhi : i < hi := by
            obtain ⟨hA, hM, hB, hBn, hn, hMi, hNn, hP, hlh, hU0, hV0, hK⟩ := HQ.out
            rcases hlh with ⟨k1, k2, k3⟩ | ⟨k1, k2, k3⟩ <;> omega
          have h9 := h2.out hhi
          have hPE : P - i = E - 1 := by have := HQ.out; omega
          have ea : el D i = el U2 0 := by
            rw [e0, show i = (X ++ U1).length + 0 by omega]
            exact el_seg g2
          have eb : el D (E - 1) = el V1 (V1.length - 1) := by
            have lx : ((X ++ U1) ++ U2).length = M := by simp only [List.length_append]; omega
            rw [e0, show (X ++ U1) ++ (U2 ++ (V1 ++ (V2 ++ Y))) = ((X ++ U1) ++ U2) ++ (V1 ++ (V2 ++ Y)) by simp, show E - 1 = ((X ++ U1) ++ U2).length + (V1.length - 1) by omega]
            exact el_seg (by omega)
          rw [hPE, ea, eb] at h9
          exact h9
        have hsE : (Nn : Int) - (i : Int) = (E : Int) := by omega
        have hiI : (0 : Int) ≤ i ∧ (i : Int) ≤ 1000 ∧ (0 : Int) ≤ E ∧ (E : Int) ≤ 1000 := by omega
        have HF := Lib.hid (⟨f1, f2, f3, f4, f5, f6, f7, f8, f9, f10⟩ : _ ∧ _ ∧ _ ∧ _ ∧ _ ∧ _ ∧ _ ∧ _ ∧ _ ∧ _)
        have HSEG := Lib.hid (⟨hU12, hV12, hU1, hV1, hU2, hV2, e0, lXU⟩ : U = U1 ++ U2 ∧ V = V1 ++ V2 ∧ U1.length = i - A ∧ V1.length = E - M ∧ U2.length = M - i ∧ V2.length = B - E ∧ D = (X ++ U1) ++ (U2 ++ (V1 ++ (V2 ++ Y))) ∧ (X ++ U1).length = i)
        have HC1 := Lib.hid (⟨c1, c2⟩ : _ ∧ _)
        clear f1 f2 f3 f4 f5 f6 f7 f8 f9 f10 f11 hU12 hV12 hU1 hV1 hU2 hV2 e0 lXU c1 c2 hE hXl hli hij hjh h1 h2 hpp hlt
        go_upto_region 39 with fail
        go_cut [185] (fun v wx => v = .bool (decide (i < M ∧ M < E)) ∧ wx = wr)
        case first =>
          as_aux_lemma =>
            by_cases g1 : i < M
            · by_cases g2 : M < E
              · have g1I : (i : Int) < (M : Int) := by omega
                have g2I : (M : Int) < (E : Int) := by omega
                go_wp2_with fail
                go_meet
                exact ⟨by rw [decide_eq_true (⟨g1, g2⟩ : _ ∧ _)], rfl⟩
              · have g1I : (i : Int) < (M : Int) := by omega
                have g2I : decide ((M : Int) < (E : Int)) = false := by simp; omega
                go_wp2_with fail
                all_goals go_meet
                all_goals exact ⟨by rw [decide_eq_false (fun h => g2 h.2)], rfl⟩
            · have g1I : decide ((i : Int) < (M : Int)) = false := by simp; omega
              go_wp2_with fail
              all_goals go_meet
              all_goals exact ⟨by rw [decide_eq_false (fun h => g1 h.1)], rfl⟩
        case rest =>
          obtain ⟨rfl, rfl⟩ := hcut
          have HH := Lib.hid h
          clear h
          go_upto_if 185 with fail
          go_cut [] (fun wx => Dt w0 g n ((X ++ U1) ++ (V1 ++ (U2 ++ (V2 ++ Y)))) wx)
          case first =>
            as_aux_lemma =>
              obtain ⟨hU12, hV12, hU1, hV1, hU2, hV2, e0, lXU⟩ := HSEG.out
              obtain ⟨f1, f2, f3, f4, f5, f6, f7, f8, f9, f10⟩ := HF.out
              by_cases g1 : i < M ∧ M < E
              · rw [decide_eq_true g1]
                have hcall := Lib.hid (HROT.out _ w0 (X ++ U1) U2 V1 (V2 ++ Y) D i M E e0 HH.out lXU (by omega) (by omega) (by omega) (by omega))
                clear f1 f2 f3 f4 f5 f6 f7 f8 f9 f10 hU12 hV12 hU1 hV1 hU2 hV2 e0 lXU
                go_wp2_with fail
                refine hcall.out.mono ?_
                rintro e w5 ⟨rfl, h5⟩
                go_wp2_with fail
                go_meet
                exact h5
              · rw [decide_eq_false g1]
                have hsame : (X ++ U1) ++ (V1 ++ (U2 ++ (V2 ++ Y))) = D := by
                  rw [e0]
                  by_cases k1 : i < M
                  · have : V1 = [] := List.eq_nil_of_length_eq_zero (by omega)
                    rw [this]; simp
                  · have : U2 = [] := List.eq_nil_of_length_eq_zero (by omega)
                    rw [this]; simp
                have hd2 := HH.out
                rw [← hsame] at hd2
                have HD2 := Lib.hid hd2
                clear f1 f2 f3 f4 f5 f6 f7 f8 f9 f10 hU12 hV12 hU1 hV1 hU2 hV2 e0 lXU hd2 hsame
                go_wp2_with fail
                all_goals go_meet
                all_goals exact HD2.out
          case rest =>
            have HD2 := Lib.hid hcut
            clear hcut HH
            have hsm2 : Sm ((X ++ U1) ++ (V1 ++ (U2 ++ (V2 ++ Y)))) := HSM.out.perm (by
              rw [HSEG.out.2.2.2.2.2.2.1]
              refine List.Perm.append_left _ ?_
              have e1 : V1 ++ (U2 ++ (V2 ++ Y)) = (V1 ++ U2) ++ (V2 ++ Y) := by simp
              have e2 : U2 ++ (V1 ++ (V2 ++ Y)) = (U2 ++ V1) ++ (V2 ++ Y) := by simp
              rw [e1, e2]
              exact List.Perm.append_right _ List.perm_append_comm)
            have HSM2 := Lib.hid hsm2
            clear hsm2
            go_upto_region 41 with fail
            go_cut [199] (fun v wx => v = .bool (decide (A < i ∧ i < Mi)) ∧ wx = wc)
            case first =>
              as_aux_lemma =>
                by_cases g1 : A < i
                · by_cases g2 : i < Mi
                  · have g1I : (A : Int) < (i : Int) := by omega
                    have g2I : (i : Int) < (Mi : Int) := by omega
                    go_wp2_with fail
                    go_meet
                    exact ⟨by rw [decide_eq_true (⟨g1, g2⟩ : _ ∧ _)], rfl⟩
                  · have g1I : (A : Int) < (i : Int) := by omega
                    have g2I : decide ((i : Int) < (Mi : Int)) = false := by simp; omega
                    go_wp2_with fail
                    all_goals go_meet
                    all_goals exact ⟨by rw [decide_eq_false (fun h => g2 h.2)], rfl⟩
                · have g1I : decide ((A : Int) < (i : Int)) = false := by simp; omega
                  go_wp2_with fail
                  all_goals go_meet
                  all_goals exact ⟨by rw [decide_eq_false (fun h => g1 h.1)], rfl⟩
            case rest =>
              obtain ⟨rfl, rfl⟩ := hcut
              go_upto_if 199 with fail
              go_cut [] (fun wx => S3Z w0 g n X (U1 ++ V1) (U2 ++ (V2 ++ Y)) wx)
              case first =>
                as_aux_lemma =>
                  obtain ⟨hU12, hV12, hU1, hV1, hU2, hV2, e0, lXU⟩ := HSEG.out
                  obtain ⟨f1, f2, f3, f4, f5, f6, f7, f8, f9, f10⟩ := HF.out
                  by_cases g1 : A < i ∧ i < Mi
                  · rw [decide_eq_true g1]
                    have hcall := Lib.hid (HIH.out _ w0 X U1 V1 (U2 ++ (V2 ++ Y)) _ A i Mi (by simp) HD2.out HSM2.out HQ.out.1 (by omega) (by omega) (srt_app.1 (by rw [← hU12]; exact HS.out.1)).1 (srt_app.1 (by rw [← hV12]; exact HS.out.2)).1 (HSV.out.sub (fun p hp => by rw [hU12]; exact List.mem_append_left _ hp) fun p hp => by rw [hV12]; exact List.mem_append_left _ hp) (by omega) (by omega) (by have := HQ.out; omega))
                    clear f1 f2 f3 f4 f5 f6 f7 f8 f9 f10 hU12 hV12 hU1 hV1 hU2 hV2 e0 lXU
                    go_wp2_with fail
                    refine hcall.out.mono ?_
                    rintro e w5 ⟨Z, rfl, h5, hz1, hz2⟩
                    go_wp2_with fail
                    go_meet
                    exact ⟨Z, h5, hz1, hz2⟩
                  · rw [decide_eq_false g1]
                    have hz : S3Z w0 g n X (U1 ++ V1) (U2 ++ (V2 ++ Y)) wc := by
                      have h5 := HD2.out
                      rw [show (X ++ U1) ++ (V1 ++ (U2 ++ (V2 ++ Y))) = X ++ ((U1 ++ V1) ++ (U2 ++ (V2 ++ Y))) by simp] at h5
                      refine ⟨U1 ++ V1, h5, ?_, List.Perm.refl _⟩
                      by_cases k1 : A < i
                      · have : V1 = [] := List.eq_nil_of_length_eq_zero (by omega)
                        rw [this, List.append_nil]; exact (srt_app.1 (by rw [← hU12]; exact HS.out.1)).1
                      · have : U1 = [] := List.eq_nil_of_length_eq_zero (by omega)
                        rw [this, List.nil_append]; exact (srt_app.1 (by rw [← hV12]; exact HS.out.2)).1
                    have HZ := Lib.hid hz
                    clear f1 f2 f3 f4 f5 f6 f7 f8 f9 f10 hU12 hV12 hU1 hV1 hU2 hV2 e0 lXU hz
                    go_wp2_with fail
                    all_goals go_meet
                    all_goals exact HZ.out
              case rest =>
                have HZ1 := Lib.hid hcut
                clear hcut
                clear HD2
                obtain ⟨Z1, h3, z1s, z1p⟩ := HZ1.out
                have hsm3 : Sm (X ++ (Z1 ++ (U2 ++ (V2 ++ Y)))) := HSM2.out.perm (by
                  rw [show (X ++ U1) ++ (V1 ++ (U2 ++ (V2 ++ Y))) = X ++ ((U1 ++ V1) ++ (U2 ++ (V2 ++ Y))) by simp]
                  exact List.Perm.append_left _ (List.Perm.append_right _ z1p))
                have H3 := Lib.hid (⟨h3, z1s, z1p, hsm3⟩ : _ ∧ _ ∧ _ ∧ _)
                clear h3 z1s z1p hsm3 HZ1
                go_upto_region 43 with fail
                go_cut [213] (fun v wx => v = .bool (decide (Mi < E ∧ E < B)) ∧ wx = wc)
                case first =>
                  as_aux_lemma =>
                    by_cases g1 : Mi < E
                    · by_cases g2 : E < B
                      · have g1I : (Mi : Int) < (E : Int) := by omega
                        have g2I : (E : Int) < (B : Int) := by omega
                        go_wp2_with fail
                        go_meet
                        exact ⟨by rw [decide_eq_true (⟨g1, g2⟩ : _ ∧ _)], rfl⟩
                      · have g1I : (Mi : Int) < (E : Int) := by omega
                        have g2I : decide ((E : Int) < (B : Int)) = false := by simp; omega
                        go_wp2_with fail
                        all_goals go_meet
                        all_goals exact ⟨by rw [decide_eq_false (fun h => g2 h.2)], rfl⟩
                    · have g1I : decide ((Mi : Int) < (E : Int)) = false := by simp; omega
                      go_wp2_with fail
                      all_goals go_meet
                      all_goals exact ⟨by rw [decide_eq_false (fun h => g1 h.1)], rfl⟩
                case rest =>
                  obtain ⟨rfl, rfl⟩ := hcut
                  obtain ⟨hU12, hV12, hU1, hV1, hU2, hV2, e0, lXU⟩ := HSEG.out
                  obtain ⟨f1, f2, f3, f4, f5, f6, f7, f8, f9, f10⟩ := HF.out
                  obtain ⟨h3, z1s, z1p, hsm3⟩ := H3.out
                  have hfin : Hid (∀ Z2 wx, Dt w0 g n (X ++ (Z1 ++ (Z2 ++ Y))) wx → SrtE Z2 → Z2.Perm (U2 ++ V2) → SortPost w0 g n X (U ++ V) Y (.returned (.tuple #[])) wx) := fun Z2 wx h5 z2s z2p => by
                    obtain ⟨j1, j2⟩ := sym_join (U1 := U1) (U2 := U2) (V1 := V1) (V2 := V2) (by rw [← hU12]; exact HS.out.1) (by rw [← hV12]; exact HS.out.2) z1p z1s z2p z2s HC1.out.1 HC1.out.2
                    refine ⟨Z1 ++ Z2, rfl, ?_, j1, by rw [hU12, hV12]; exact j2⟩
                    rw [show X ++ ((Z1 ++ Z2) ++ Y) = X ++ (Z1 ++ (Z2 ++ Y)) by simp]
                    exact h5
                  have hl1 : Z1.length = U1.length + V1.length := by rw [z1p.length_eq, List.length_append]
                  have hXl : X.length = A := HQ.out.1
                  by_cases g1 : Mi < E ∧ E < B
                  · as_aux_lemma =>
                      rw [decide_eq_true g1]
                      have hcall := Lib.hid (HIH.out _ w0 (X ++ Z1) U2 V2 Y _ Mi E B (by simp) h3 hsm3 (by rw [List.length_append]; omega) (by omega) (by omega) (srt_app.1 (by rw [← hU12]; exact HS.out.1)).2.1 (srt_app.1 (by rw [← hV12]; exact HS.out.2)).2.1 (HSV.out.sub (fun p hp => by rw [hU12]; exact List.mem_append_right _ hp) fun p hp => by rw [hV12]; exact List.mem_append_right _ hp) (by omega) (by omega) (by have := HQ.out; omega))
                      clear f1 f2 f3 f4 f5 f6 f7 f8 f9 f10 hU12 hV12 hU1 hV1 hU2 hV2 e0 lXU h3 z1s z1p hsm3 hl1 hXl
                      go_wp2_with fail
                      refine hcall.out.mono ?_
                      rintro e w5 ⟨Z2, rfl, h5, hz1, hz2⟩
                      go_wp2_with fail
                      go_end0
                      rw [List.append_assoc] at h5
                      exact hfin.out Z2 _ h5 hz1 hz2
                  · as_aux_lemma =>
                      rw [decide_eq_false g1]
                      have hz2 : SrtE (U2 ++ V2) := by
                        by_cases k1 : Mi < E
                        · have : V2 = [] := List.eq_nil_of_length_eq_zero (by omega)
                          rw [this, List.append_nil]; exact (srt_app.1 (by rw [← hU12]; exact HS.out.1)).2.1
                        · have : U2 = [] := List.eq_nil_of_length_eq_zero (by omega)
                          rw [this, List.nil_append]; exact (srt_app.1 (by rw [← hV12]; exact HS.out.2)).2.1
                      have hd5 := hfin.out (U2 ++ V2) _ (by rw [List.append_assoc]; exact h3) hz2 (List.Perm.refl _)
                      have HD5 := Lib.hid hd5
                      clear f1 f2 f3 f4 f5 f6 f7 f8 f9 f10 hU12 hV12 hU1 hV1 hU2 hV2 e0 lXU h3 z1s z1p hsm3 hl1 hXl hz2 hd5
                      go_wp2_with fail
                      all_goals go_end0
                      all_goals exact HD5.out
end Go.Proofs.Ytlgkiookobedcaa
namespace Go.Proofs.Ytlgkiookobedcaa
open Go.RowKit
set_option linter.unusedVariables false
theorem sym_any (g n c : Nat) (hn : n ≤ 1000) : ∀ K, SymH g n c K := by
  intro K
  induction K with
  | zero => intro w w0 X U V Y D A M B hD h hs hA hM hB hU hV hU0 hV0 hK; omega
  | succ K ih =>
    intro w w0 X U V Y D A M B hD h hs hA hM hB hU hV hse hU0 hV0 hK
    by_cases h1 : U.length = 1
    · obtain ⟨u, rfl⟩ : ∃ u, U = [u] := by
        cases U with
        | nil => simp at hU0
        | cons u U => cases U with
          | nil => exact ⟨u, rfl⟩
          | cons u' U => simp at h1
      exact sym1_any w w0 g n c X V Y D u (by rw [hD]; rfl) h hn hs A M B hA (by simpa using hM) hB hV hV0 hse
    · by_cases h2 : V.length = 1
      · obtain ⟨v, rfl⟩ : ∃ v, V = [v] := by
          cases V with
          | nil => simp at hV0
          | cons v V => cases V with
            | nil => exact ⟨v, rfl⟩
            | cons v' V => simp at h2
        exact sym2_any w w0 g n c X U Y D v (by rw [hD]; rfl) h hn hs A M B hA hM (by simpa using hB) hU (by omega) hse
      · exact sym3_any K w w0 g n c ih X U V Y D A M B hD h hn hs hA hM hB hU hV hse (by omega) (by omega) hK
theorem ins_nil (w : World) (A : Option Addr) (n c a : Nat) (ha : a ≤ 1000) (F : Value) :
    Calls Try.prog 94 #[.slice A n c, .int .i64 a, .int .i64 a, F] w fun e w' => e = .returned (.tuple #[]) ∧ w = w' := by
  have h1 : ¬ (a : Int) + 1 < (a : Int) := by omega
  have h2 : (0 : Int) ≤ a ∧ (a : Int) ≤ 1000 := by omega
  go_enter Try.func94, Try.ntmps94
  go_wp2_with fail
  go_loopg [8] 0 (fun (_ : Nat) (v : Value) wr => v = .int .i64 ((a : Int) + 1) ∧ wr = w)
  case atStart => exact ⟨rfl, rfl⟩
  case round =>
    obtain ⟨rfl, rfl⟩ := hrel
    go_wp2_with fail
    go_end0
    exact ⟨rfl, rfl⟩
def StPost (w0 : World) (g n : Nat) (D0 : List El) (e : Ending) (w' : World) : Prop := ∃ D, e = .returned (.tuple #[]) ∧ Dt w0 g n D w' ∧ SrtE D ∧ D.Perm D0
def St1R (w0 : World) (g n : Nat) (D0 : List El) (k : Nat) (v7 v8 : Value) (wr : World) : Prop :=
  ∃ (P R : List El) (a b : Nat), v7 = .int .i64 a ∧ v8 = .int .i64 b ∧ Hid (P.length = a) ∧ b = a + 20 ∧ Hid (Pre 20 P) ∧ Dt w0 g n (P ++ R) wr ∧ Hid ((P ++ R).Perm D0) ∧ Hid (k = R.length) ∧ a + R.length = n ∧ Hid (Sep P R ∧ Asc R)
def St2R (w0 : World) (g n : Nat) (D0 : List El) (k : Nat) (v6 : Value) (wr : World) : Prop :=
  ∃ (D : List El) (s : Nat), v6 = .int .i64 s ∧ 20 ≤ s ∧ s ≤ 2000 ∧ Hid (Chk s D) ∧ Dt w0 g n D wr ∧ Hid (D.Perm D0) ∧ Hid (k = n - s)
def St3R (w0 : World) (g n : Nat) (D0 : List El) (s : Nat) (k : Nat) (v7 v8 : Value) (wr : World) : Prop :=
  ∃ (P R : List El) (a b : Nat), v7 = .int .i64 a ∧ v8 = .int .i64 b ∧ Hid (P.length = a) ∧ b = a + 2 * s ∧ Hid (Pre (2 * s) P) ∧ Hid (Chk s R) ∧ Dt w0 g n (P ++ R) wr ∧ Hid ((P ++ R).Perm D0) ∧ Hid (k = R.length) ∧ a + R.length = n ∧ Hid (Sep P R)
def StZ (w0 : World) (g n : Nat) (D0 : List El) (wx : World) : Prop := ∃ D, Dt w0 g n D wx ∧ Chk 20 D ∧ D.Perm D0
set_option maxRecDepth 100000 in
set_option maxHeartbeats 8000000 in
theorem stable_any (w w0 : World) (g n c : Nat) (D0 : List El) (h : Dt w0 g n D0 w) (hn : n ≤ 1000) (hsm : Sm D0) (hasc : Asc D0) :
    Calls Try.prog 92 #[.slice (some ⟨g, 0, none⟩) n c, .int .i64 n, cmpF] w (StPost w0 g n D0) := by
  have hINS : ∀ (w : World) (X U0 Y : List El) (a b : Nat), Dt w0 g n (X ++ (U0 ++ Y)) w → (X ++ (U0 ++ Y)).Perm D0 → X.length = a → X.length + U0.length = b → 0 < U0.length → Asc U0 →
    Calls Try.prog 94 #[.slice (some ⟨g, 0, none⟩) n c, .int .i64 a, .int .i64 b, .func (.func 89) #[] #[]] w (SortPost w0 g n X U0 Y) := fun w X U0 Y a b h1 h2 h3 h4 h5 h6 => by
      have := ins_any w w0 g n c X U0 Y _ rfl h1 hn (hsm.perm h2) h5 h6
      rw [h3] at this h4
      rw [h4] at this
      exact this
  have hSYM : ∀ (w : World) (X U V Y : List El) (A M B : Nat), Dt w0 g n (X ++ (U ++ (V ++ Y))) w → (X ++ (U ++ (V ++ Y))).Perm D0 → X.length = A → A + U.length = M → M + V.length = B → SrtE U → SrtE V → Sep U V → 0 < U.length → 0 < V.length →
    Calls Try.prog 95 #[.slice (some ⟨g, 0, none⟩) n c, .int .i64 A, .int .i64 M, .int .i64 B, .func (.func 89) #[] #[]] w (SortPost w0 g n X (U ++ V) Y) := fun w X U V Y A M B h1 h2 h3 h4 h5 h6 h7 h8 h9 h10 => sym_any g n c hn _ w w0 X U V Y _ A M B rfl h1 (hsm.perm h2) h3 h4 h5 h6 h7 h8 h9 h10 (Nat.le_refl _)
  have HINS := Lib.hid hINS
  have HSYM := Lib.hid hSYM
  have hlen := h.len
  have HN := Lib.hid hn
  have hini : Hid (St1R w0 g n D0 n (.int .i64 0) (.int .i64 20) w) := ⟨[], D0, 0, 20, rfl, rfl, rfl, rfl, Pre.nil_ _, h, List.Perm.refl _, hlen.symm, by omega, ⟨Sep.nil' _, hasc⟩⟩
  have hnI : (0 : Int) ≤ n ∧ (n : Int) ≤ 1000 := by omega
  clear hINS hSYM hlen h hn hsm hasc
  unfold cmpF
  go_enter Try.func92, Try.ntmps92
  go_wp2_with fail
  go_loopg [7, 8] n (St1R w0 g n D0)
  case atStart => exact hini.out
  case round =>
    clear hini
    obtain ⟨P, R, a, b, rfl, rfl, hP, hb, hpre, h, hperm, hk, ha, hse⟩ := hrel
    have hbI : (0 : Int) ≤ a ∧ (0 : Int) ≤ b ∧ (a : Int) ≤ 1000 ∧ (b : Int) ≤ 2000 ∧ (a : Int) + 20 = (b : Int) := by omega
    by_cases hbn : b ≤ n
    · have hbn' : (b : Int) ≤ (n : Int) := by omega
      obtain ⟨U, Y, hR, hU⟩ : ∃ U Y, R = U ++ Y ∧ U.length = 20 := ⟨R.take 20, R.drop 20, (List.take_append_drop ..).symm, by rw [List.length_take]; omega⟩
      have hcall := Lib.hid (HINS.out wr P U Y a b (by rw [← hR]; exact h) (by rw [← hR]; exact hperm.out) hP.out (by have := hP.out; omega) (by omega) (asc_app.1 (by rw [← hR]; exact hse.out.2)).1)
      have HB := Lib.hid (⟨hb, hR, hU, ha⟩ : b = a + 20 ∧ R = U ++ Y ∧ U.length = 20 ∧ a + R.length = n)
      clear hR hU h hb ha hbn
      go_wp2_with fail
      refine hcall.out.mono ?_
      rintro e w5 ⟨Z, rfl, h5, hz1, hz2⟩
      obtain ⟨b2, hb2⟩ : ∃ b2, b + 20 = b2 := ⟨_, rfl⟩
      have hsb : (b : Int) + 20 = (b2 : Int) := by omega
      have HB2 := Lib.hid hb2
      clear hb2
      go_wp2_with fail
      go_roundg Y.length
      case measure => have := hk.out; have := HB.out; have h9 := congrArg List.length HB.out.2.1; rw [List.length_append] at h9; omega
      case rel =>
        obtain ⟨hb, hR, hU, ha⟩ := HB.out
        have hZl : Z.length = 20 := by rw [hz2.length_eq]; exact hU
        refine ⟨P ++ Z, Y, b, b2, rfl, rfl, by show _ = _; rw [List.length_append, hP.out]; omega, HB2.out.symm, hpre.out.more hZl hz1 (hse.out.1.sub (fun p hp => hp) fun p hp => by rw [hR]; exact List.mem_append_left _ (hz2.mem_iff.1 hp)), by rw [List.append_assoc]; exact h5, ?_, rfl, ?_, ?_⟩
        · show _
          rw [List.append_assoc]
          refine (List.Perm.append_left _ (List.Perm.append_right _ hz2)).trans ?_
          rw [← hR]; exact hperm.out
        · have h9 := congrArg List.length hR; rw [List.length_append] at h9; omega
        · have ha3 := asc_app.1 (show Asc (U ++ Y) by rw [← hR]; exact hse.out.2)
          exact ⟨Sep.app (hse.out.1.sub (fun p hp => hp) fun p hp => by rw [hR]; exact List.mem_append_right _ hp) (ha3.2.2.perm hz2 (List.Perm.refl _)), ha3.2.1⟩
    · have hbn' : ¬ (b : Int) ≤ (n : Int) := by omega
      have hRl : R.length < 20 := by omega
      have HR := Lib.hid (⟨hRl, ha⟩ : R.length < 20 ∧ a + R.length = n)
      clear hb hRl ha hbn
      go_upto_region 6 with fail
      go_cut [] (fun wx => StZ w0 g n D0 wx)
      case first =>
        obtain ⟨hRl, ha⟩ := HR.out
        by_cases hR0 : R.length = 0
        · have hR : R = [] := List.eq_nil_of_length_eq_zero hR0
          subst hR
          have han : a = n := by simpa using ha
          subst han
          have HI := Lib.hid (fun w F => ins_nil w (some ⟨g, 0, none⟩) a c a HN.out F)
          have hz : StZ w0 g a D0 wr := by
            refine ⟨P, by rw [List.append_nil] at h; exact h, ?_, by have := hperm.out; rwa [List.append_nil] at this⟩
            have := hpre.out [] (.last (Nat.zero_le _) SrtE.nil_) (Sep.nil_ _)
            rwa [List.append_nil] at this
          have HZ := Lib.hid hz
          clear hRl ha hz h hR0
          go_wp2_with fail
          refine (HI.out _ _).mono ?_
          rintro e w5 ⟨rfl, rfl⟩
          go_wp2_with fail
          go_meet
          exact HZ.out
        · have hcall := Lib.hid (HINS.out wr P R [] a n (by rw [List.append_nil]; exact h) (by rw [List.append_nil]; exact hperm.out) hP.out (by have := hP.out; omega) (by omega) hse.out.2)
          have HRL := Lib.hid hRl
          clear hRl ha h hR0
          go_wp2_with fail
          refine hcall.out.mono ?_
          rintro e w5 ⟨Z, rfl, h5, hz1, hz2⟩
          go_wp2_with fail
          go_meet
          rw [List.append_nil] at h5
          refine ⟨P ++ Z, h5, hpre.out _ (.last (by rw [hz2.length_eq]; have := HRL.out; omega) hz1) (hse.out.1.perm (List.Perm.refl _) hz2), ?_⟩
          exact (List.Perm.append_left _ hz2).trans hperm.out
      case rest =>
        obtain ⟨D, h, hchk, hperm2⟩ := hcut
        have hini : Hid (St2R w0 g n D0 (n - 20) (.int .i64 20) wc) := ⟨D, 20, rfl, Nat.le_refl _, by omega, hchk, h, hperm2, rfl⟩
        clear h hchk hperm2 hP hpre hperm hk HR hbn' hbI hse
        go_wp2_with fail
        go_loopg [6] (n - 20) (St2R w0 g n D0)
        case atStart => exact hini.out
        case round =>
          clear hini
          obtain ⟨D, s, rfl, hs20, hs2, hchk, h, hperm, hk⟩ := hrel
          by_cases hsn : s < n
          · have hsnI : (s : Int) < (n : Int) := by omega
            obtain ⟨t2, ht2⟩ : ∃ t, 2 * s = t := ⟨_, rfl⟩
            have hst : 2 * (s : Int) = (t2 : Int) := by omega
            have hst' : (s : Int) * 2 = (t2 : Int) := by omega
            have hsI : (20 : Int) ≤ s ∧ (s : Int) ≤ 1000 ∧ (t2 : Int) ≤ 2000 ∧ (0 : Int) ≤ t2 := by omega
            have hlD := h.len
            have hini : Hid (St3R w0 g n D0 s n (.int .i64 0) (.int .i64 t2) wr) := ⟨[], D, 0, t2, rfl, rfl, rfl, by omega, Pre.nil_ _, hchk.out, h, hperm.out, hlD.symm, by omega, Sep.nil' _⟩
            have HS := Lib.hid (⟨hs20, hs2, hsn, ht2⟩ : _ ∧ _ ∧ _ ∧ _)
            clear hs20 hs2 hsn ht2 hchk h hperm hlD
            go_wp2_with fail
            go_loopg [7, 8] n (St3R w0 g n D0 s)
            case atStart => exact hini.out
            case round =>
              clear hini
              obtain ⟨P, R, a, b, rfl, rfl, hP, hb, hpre, hchk, h, hperm, hk3, ha, hse⟩ := hrel
              have hs4 := HS.out
              obtain ⟨M, hM⟩ : ∃ M, a + s = M := ⟨_, rfl⟩
              have hsM : (a : Int) + (s : Int) = (M : Int) := by omega
              have hbI : (0 : Int) ≤ a ∧ (a : Int) ≤ 1000 ∧ (0 : Int) ≤ b ∧ (b : Int) ≤ 3000 ∧ (0 : Int) ≤ M ∧ (M : Int) ≤ 3000 := by omega
              by_cases hbn : b ≤ n
              · have hbn' : (b : Int) ≤ (n : Int) := by omega
                obtain ⟨c1, R1, e1, l1, s1, k1, q1⟩ := hchk.out.head (by omega)
                have hR1 : s ≤ R1.length := by have := congrArg List.length e1; rw [List.length_append] at this; omega
                obtain ⟨c2, R2, e2, l2, s2, k2, q2⟩ := k1.head hR1
                subst e1 e2
                have hcall := Lib.hid (HSYM.out _ P c1 c2 R2 a M b h hperm.out hP.out (by omega) (by omega) s1 s2 (q1.sub (fun p hp => hp) fun p hp => List.mem_append_left _ hp) (by omega) (by omega))
                obtain ⟨b2, hb2⟩ : ∃ b2, b + t2 = b2 := ⟨_, rfl⟩
                have hsb : (b : Int) + (t2 : Int) = (b2 : Int) := by omega
                have HB := Lib.hid (⟨hb, hM, hb2, l1, l2, k2, ha⟩ : _ ∧ _ ∧ _ ∧ _ ∧ _ ∧ _ ∧ _)
                clear hb hM hb2 l1 l2 k2 ha s1 s2 hR1 h hbn k1 hs4
                go_wp2_with fail
                refine hcall.out.mono ?_
                rintro e w5 ⟨Z, rfl, h5, hz1, hz2⟩
                go_wp2_with fail
                go_roundg R2.length
                case measure => have h1 := hk3.out; simp only [List.length_append] at h1; have := HB.out; have := HS.out; omega
                case rel =>
                  obtain ⟨hb, hM, hb2, l1, l2, k2, ha⟩ := HB.out
                  have hZl : Z.length = 2 * s := by rw [hz2.length_eq, List.length_append]; omega
                  have hs4 := HS.out
                  have hmem : ∀ p ∈ c1 ++ c2, p ∈ c1 ++ (c2 ++ R2) := fun p hp => by rw [← List.append_assoc]; exact List.mem_append_left _ hp
                  refine ⟨P ++ Z, R2, b, b2, rfl, rfl, by show _ = _; rw [List.length_append, hP.out]; omega, by omega, hpre.out.more hZl hz1 (hse.out.sub (fun p hp => hp) fun p hp => hmem p (hz2.mem_iff.1 hp)), k2, by rw [List.append_assoc]; exact h5, ?_, rfl, ?_, ?_⟩
                  · show _
                    rw [List.append_assoc]
                    refine (List.Perm.append_left _ (List.Perm.append_right _ hz2)).trans ?_
                    rw [List.append_assoc]; exact hperm.out
                  · simp only [List.length_append] at ha; omega
                  · refine Sep.app (hse.out.sub (fun p hp => hp) fun p hp => List.mem_append_right _ (List.mem_append_right _ hp)) (Sep.perm (U := c1 ++ c2) (V := R2) (Sep.app ?_ q2) hz2 (List.Perm.refl _))
                    exact q1.sub (fun p hp => hp) fun p hp => List.mem_append_right _ hp
              · have hbn' : ¬ (b : Int) ≤ (n : Int) := by omega
                have HB := Lib.hid (⟨hb, hM, ha, by omega⟩ : b = a + 2 * s ∧ a + s = M ∧ a + R.length = n ∧ R.length < 2 * s)
                by_cases hMn : M < n
                · have hMn' : (M : Int) < (n : Int) := by omega
                  obtain ⟨c1, R1, e1, l1, s1, k1, q1⟩ := hchk.out.head (by omega)
                  subst e1
                  rw [List.length_append] at ha
                  have s2 : SrtE R1 := k1.srt (by omega)
                  have hcall := Lib.hid (HSYM.out _ P c1 R1 [] a M n (by rw [List.append_nil]; exact h) (by rw [List.append_nil]; exact hperm.out) hP.out (by omega) (by omega) s1 s2 q1 (by omega) (by omega))
                  clear hb hM ha hbn hs4 hMn l1 s1 k1 s2 h
                  go_wp2_with fail
                  refine hcall.out.mono ?_
                  rintro e w5 ⟨Z, rfl, h5, hz1, hz2⟩
                  go_wp2_with fail
                  go_roundg (n - t2)
                  case measure => have := hk.out; have := HS.out; omega
                  case rel =>
                    have hs4 := HS.out
                    rw [List.append_nil] at h5
                    refine ⟨P ++ Z, t2, by rw [← hst'], by omega, by omega, ?_, h5, (List.Perm.append_left _ hz2).trans hperm.out, rfl⟩
                    show Chk _ _
                    rw [← hs4.2.2.2]
                    exact hpre.out _ (.last (by rw [hz2.length_eq]; have := HB.out; omega) hz1) (hse.out.perm (List.Perm.refl _) hz2)
                · have hMn' : ¬ (M : Int) < (n : Int) := by omega
                  have s2 : SrtE R := hchk.out.srt (by omega)
                  have HX := Lib.hid (⟨s2, h⟩ : _ ∧ _)
                  clear hb hM ha hbn hs4 hMn s2 h
                  go_wp2_with fail
                  go_roundg (n - t2)
                  case measure => have := hk.out; have := HS.out; omega
                  case rel =>
                    have hs4 := HS.out
                    refine ⟨P ++ R, t2, by rw [← hst'], by omega, by omega, ?_, HX.out.2, hperm.out, rfl⟩
                    show Chk _ _
                    rw [← hs4.2.2.2]
                    exact hpre.out _ (.last (by have := HB.out; omega) HX.out.1) hse.out
          · have hsnI : ¬ (s : Int) < (n : Int) := by omega
            have hsD : SrtE D := hchk.out.srt (by rw [h.len]; omega)
            clear hsn hs20 hs2
            go_wp2_with fail
            go_end0
            exact ⟨D, rfl, h, hsD, hperm.out⟩
theorem stable_nil (w : World) (F : Value) :
    Calls Try.prog 92 #[.slice none 0 0, .int .i64 0, F] w fun e w' => e = .returned (.tuple #[]) ∧ w = w' := by
  have HI := Lib.hid (fun w F => ins_nil w none 0 0 0 (by omega) F)
  go_enter Try.func92, Try.ntmps92
  go_wp2_with fail
  go_loopg [7, 8] 0 (fun (_ : Nat) (v7 v8 : Value) wr => v7 = .int .i64 0 ∧ v8 = .int .i64 20 ∧ wr = w)
  case atStart => exact ⟨rfl, rfl, rfl⟩
  case round =>
    obtain ⟨rfl, rfl, rfl⟩ := hrel
    go_wp2_with fail
    refine (HI.out _ _).mono ?_
    rintro e w5 ⟨rfl, rfl⟩
    go_wp2_with fail
    go_loopg [6] 0 (fun (_ : Nat) (v6 : Value) wx => v6 = .int .i64 20 ∧ wx = wr)
    case atStart => exact ⟨rfl, rfl⟩
    case round =>
      obtain ⟨rfl, rfl⟩ := hrel
      go_wp2_with fail
      go_end0
      exact ⟨rfl, rfl⟩
end Go.Proofs.Ytlgkiookobedcaa
namespace Go.Proofs.Ytlgkiookobedcaa
open Go.RowKit
set_option linter.unusedVariables false
theorem dF_one (D : List El) (i : Nat) : (dF D i).oneCell' = true := by
  unfold dF sv
  split <;> rfl
theorem dF_cat (D E : List El) (i : Nat) : cat (D.length * 2) (dF D) (dF E) i = dF (D ++ E) i := by
  have e : dF (D ++ E) i = if i < D.length * 2 then dF D i else dF E (i - D.length * 2) := by
    by_cases h : i < D.length * 2
    · have h1 : i / 2 < D.length := by omega
      have h2 : el (D ++ E) (i / 2) = el D (i / 2) := el_app_left h1
      rw [if_pos h]
      unfold dF
      rw [h2]
    · have h1 : D.length ≤ i / 2 := by omega
      have h2 : el (D ++ E) (i / 2) = el E (i / 2 - D.length) := el_app_right h1
      have h3 : (i - D.length * 2) / 2 = i / 2 - D.length := by omega
      have h4 : (i - D.length * 2) % 2 = i % 2 := by omega
      rw [if_neg h]
      unfold dF
      rw [h2, h3, h4]
  rw [e]
  rfl
def RdP (w : World) (B : Nat) (A : Option Addr) (n : Nat) (D : List El) : Prop := n = D.length ∧ Rd w B A (n * 2) (dF D)
def OwnP (w : World) (b0 : Nat) (A : Option Addr) (n c : Nat) (D : List El) : Prop := n = D.length ∧ Own w b0 129 2 A n c (dF D)
section
variable {w w' : World} {b0 B n c : Nat} {A : Option Addr} {D : List El}
theorem OwnP.rd (h : OwnP w b0 A n c D) : RdP w w.heap.size A n D := ⟨h.1, h.2.rd⟩
theorem OwnP.nil_ : OwnP w b0 none 0 0 [] := ⟨rfl, Own.nil_⟩
theorem OwnP.alloc (h : OwnP w b0 A n c D) (o : Obj) : OwnP (w.alloc o) b0 A n c D := ⟨h.1, h.2.alloc o⟩
theorem OwnP.drew (h : OwnP w b0 A n c D) : OwnP w.drew b0 A n c D := h
theorem OwnP.drewN (h : OwnP w b0 A n c D) (q : Nat) : OwnP (w.drewN q) b0 A n c D := h
theorem OwnP.below {B : Nat} (h : OwnP w b0 A n c D) (hb : Below B w w') (hB : ∀ g, blkOf A = some g → g < B) : OwnP w' b0 A n c D := ⟨h.1, h.2.below hb hB⟩
theorem OwnP.keeps (h : OwnP w b0 A n c D) (hb : Below w.heap.size w w') : OwnP w' b0 A n c D := h.below hb fun _ hg => (h.2.lt hg).2
theorem OwnP.more {b1 : Nat} (h : OwnP w b0 A n c D) (hb : b1 ≤ b0) : OwnP w b1 A n c D := ⟨h.1, h.2.more hb⟩
theorem RdP.below (h : RdP w B A n D) (hb : Below B w w') : RdP w' B A n D := ⟨h.1, h.2.below hb⟩
theorem RdP.more {B' : Nat} (h : RdP w B A n D) (hB : B ≤ B') : RdP w B' A n D := ⟨h.1, h.2.more hB⟩
theorem RdP.lit (w : World) (e : El) (t : TypeId) : RdP (w.alloc (.cells #[.int .i64 e.1, .slice e.2.1 e.2.2.1 e.2.2.2] t)) (w.heap.size + 1) (some ⟨w.heap.size, 0, none⟩) 1 [e] := ⟨rfl, fun _ => ⟨_, rfl, by simp, fun i hi => by
  rw [addr0]
  have h := Ar.new w #[.int .i64 e.1, .slice e.2.1 e.2.2.1 e.2.2.2] t (m := 2) (f := dF [e]) rfl (fun i hi => by
    obtain rfl | rfl : i = 0 ∨ i = 1 := by omega
    · rfl
    · rfl)
  exact h.cell (by omega)⟩⟩
theorem pck_info : (Try.prog.info? 129).map (fun i => (i.zero, i.size, i.bytes)) = some (some (.agg #[.int .i64 0, .slice none 0 0]), 2, 32) := by kernel_rfl
theorem run_appP (b0 : Nat) (ty : TypeId) (i : TypeInfo) (hi : Try.prog.info? 129 = some i) (hz : i.zero = some (.agg #[.int .i64 0, .slice none 0 0]))
    (hsize : i.size = 2) (hby : i.bytes = 32) {A : Option Addr} {n c : Nat} {l : List El} (hown : OwnP w b0 A n c l) {B : Nat} {A' : Option Addr} {m c' : Nat} {l' : List El} (hr : RdP w B A' m l')
    (h63 : n + m ≤ 1000000000000) (hbase : b0 ≤ w.heap.size) :
    ∃ A2 c2 w2, (Builtin.append_ #[126, 126] ty #[.slice A n c, .slice A' m c']).run Try.prog w = .ok (.slice A2 (n + m) c2) w2 ∧ OwnP w2 b0 A2 (n + m) c2 (l ++ l') ∧ w.grownBy w2 (blkOf A) ∧ (blkOf A2 = blkOf A ∨ blkOf A2 = some w.heap.size) := by
  obtain ⟨A2, c2, w2, hrun, h2, h3, h4⟩ := run_append_cat (P := Try.prog) w b0 126 ty 129 i _ 2 32 Try.underlying126 hi hz hsize hby rfl (by omega) A n c _ hown.2 B A' m c' _ hr.2 (fun j _ => dF_one l' j) h63 (by omega) hbase
  exact ⟨A2, c2, w2, hrun, ⟨by rw [List.length_append, ← hown.1, ← hr.1], h2.congr fun j hj => by rw [hown.1, dF_cat]⟩, h3, h4⟩
theorem wpList_appP {ops : Array Oper} {rest : List Oper} {o : Oper} {a : Act} {Q : Exit → Act → World → Prop} (b0 : Nat) (i : TypeInfo) (hgd : Region.wanted o (yielded ops a.tmps) = true) (s x : Operand)
    (ho : o.op = .call { callee := .builtin .append, args := #[s, x], argTypes := #[126, 126] }) (hi : Try.prog.info? 129 = some i) (hz : i.zero = some (.agg #[.int .i64 0, .slice none 0 0]))
    (hsize : i.size = 2) (hby : i.bytes = 32) {A : Option Addr} {n c : Nat} {l : List El} (hs : a.eval s = .slice A n c) (hown : OwnP w b0 A n c l)
    {B : Nat} {A' : Option Addr} {m c' : Nat} {l' : List El} (hx : a.eval x = .slice A' m c') (hr : RdP w B A' m l')
    (h63 : n + m ≤ 1000000000000) (hbase : b0 ≤ w.heap.size)
    (h : ∀ A2 c2 w2, OwnP w2 b0 A2 (n + m) c2 (l ++ l') → w.grownBy w2 (blkOf A) → (blkOf A2 = blkOf A ∨ blkOf A2 = some w.heap.size) → wpList Try.prog ops Q rest (a.put o.dst (.slice A2 (n + m) c2)) w2) : wpList Try.prog ops Q (o :: rest) a w := by
  refine wpList_step fun K hK => ?_
  rw [if_pos hgd]
  obtain ⟨A2, c2, w2, hrun, h2, h3, h4⟩ := run_appP b0 o.type i hi hz hsize hby hown (c' := c') hr h63 hbase
  unfold Oper.wp execOp
  simp only [ho, resolve, invoke, builtin, Sem.run_bind, Sem.run_pure, Result.andThen_ok, List.map_toArray, List.map_cons, List.map_nil, hs, hx, hrun]
  exact hK _ _ (h A2 c2 w2 h2 h3 h4)
theorem step_appP {ops : Array Oper} {o : Oper} {a : Act} {K : Act → World → Prop} {Q : Exit → Act → World → Prop} {E : Prop} (b0 : Nat) (i : TypeInfo) (hgd : Region.wanted o (yielded ops a.tmps) = true) (s x : Operand)
    (ho : o.op = .call { callee := .builtin .append, args := #[s, x], argTypes := #[126, 126] }) (hi : Try.prog.info? 129 = some i) (hz : i.zero = some (.agg #[.int .i64 0, .slice none 0 0]))
    (hsize : i.size = 2) (hby : i.bytes = 32) {A : Option Addr} {n c : Nat} {l : List El} (hs : a.eval s = .slice A n c) (hown : OwnP w b0 A n c l)
    {B : Nat} {A' : Option Addr} {m c' : Nat} {l' : List El} (hx : a.eval x = .slice A' m c') (hr : RdP w B A' m l')
    (h63 : n + m ≤ 1000000000000) (hbase : b0 ≤ w.heap.size)
    (h : ∀ A2 c2 w2, OwnP w2 b0 A2 (n + m) c2 (l ++ l') → w.grownBy w2 (blkOf A) → (blkOf A2 = blkOf A ∨ blkOf A2 = some w.heap.size) → K (a.put o.dst (.slice A2 (n + m) c2)) w2) :
    if Region.wanted o (yielded ops a.tmps) = true then Oper.wp Try.prog o a w K Q else E := by
  rw [if_pos hgd]
  obtain ⟨A2, c2, w2, hrun, h2, h3, h4⟩ := run_appP b0 o.type i hi hz hsize hby hown (c' := c') hr h63 hbase
  unfold Oper.wp execOp
  simp only [ho, resolve, invoke, builtin, Sem.run_bind, Sem.run_pure, Result.andThen_ok, List.map_toArray, List.map_cons, List.map_nil, hs, hx, hrun]
  exact h A2 c2 w2 h2 h3 h4
end
end Go.Proofs.Ytlgkiookobedcaa
