/-
  The walk of merging in place.
-/
import Derived.Test.YtckhkkjdibcclaaSrtO
namespace Go.Proofs.Ytckhkkjdibcclaa
open Go.RowKit
set_option linter.unusedVariables false
theorem Sm.perm {D E : List El} (h : Sm D) (hp : E.Perm D) : Sm E := fun p hp' => h p (hp.mem_iff.1 hp')
def S3R (w0 : World) (g n : Nat) (D : List El) (lo hi P : Nat) (k : Nat) (v20 v21 : Value) (wr : World) : Prop :=
  ∃ i j : Nat, v20 = .int .i64 i ∧ v21 = .int .i64 j ∧ lo ≤ i ∧ i ≤ j ∧ j ≤ hi ∧ Hid (lo < i → LeE (el D (i - 1)) (el D (P - (i - 1)))) ∧ Hid (j < hi → LeE (el D (P - j)) (el D j)) ∧ Hid (k = j - i) ∧ Dt w0 g n D wr
def SymH (g n c K : Nat) : Prop := ∀ (w w0 : World) (X U V Y D : List El) (A M B : Nat), D = X ++ (U ++ (V ++ Y)) → Dt w0 g n D w → Sm D → X.length = A → A + U.length = M → M + V.length = B → SrtE U → SrtE V → Sep U V → 0 < U.length → 0 < V.length → U.length + V.length ≤ K →
  Calls Try.prog 80 #[.slice (some ⟨g, 0, none⟩) n c, .int .i64 A, .int .i64 M, .int .i64 B, cmpF] w (SortPost w0 g n X (U ++ V) Y)
def S3Z (w0 : World) (g n : Nat) (X W Y : List El) (wx : World) : Prop := ∃ Z, Dt w0 g n (X ++ (Z ++ Y)) wx ∧ SrtE Z ∧ Z.Perm W
set_option maxRecDepth 100000 in
set_option maxHeartbeats 8000000 in
theorem sym3_any (K : Nat) (w w0 : World) (g n c : Nat) (IH : SymH g n c K) (X U V Y D : List El) (A M B : Nat) (hD : D = X ++ (U ++ (V ++ Y))) (h : Dt w0 g n D w) (hn : n ≤ 1000) (hsm : Sm D) (hA : X.length = A) (hM : A + U.length = M) (hB : M + V.length = B) (hU : SrtE U) (hV : SrtE V) (hse : Sep U V) (hU0 : 1 < U.length) (hV0 : 1 < V.length) (hK : U.length + V.length ≤ K + 1) :
    Calls Try.prog 80 #[.slice (some ⟨g, 0, none⟩) n c, .int .i64 A, .int .i64 M, .int .i64 B, cmpF] w (SortPost w0 g n X (U ++ V) Y) := by
  have hlen := h.len
  have hBn : B ≤ n := by rw [← hlen, hD]; simp only [List.length_append]; omega
  obtain ⟨Mi, hMi⟩ : ∃ k, (A + B) / 2 = k := ⟨_, rfl⟩
  obtain ⟨Nn, hNn⟩ : ∃ k, Mi + M = k := ⟨_, rfl⟩
  obtain ⟨P, hP⟩ : ∃ k, Nn - 1 = k := ⟨_, rfl⟩
  obtain ⟨lo, hi, hlh⟩ : ∃ lo hi : Nat, (Mi < M ∧ lo = Nn - B ∧ hi = Mi) ∨ (M ≤ Mi ∧ lo = A ∧ hi = M) := by
    by_cases e : Mi < M
    · exact ⟨_, _, .inl ⟨e, rfl, rfl⟩⟩
    · exact ⟨_, _, .inr ⟨by omega, rfl, rfl⟩⟩
  obtain ⟨nu, hnu⟩ : ∃ k, U.length = k := ⟨_, rfl⟩
  obtain ⟨nv, hnv⟩ : ∃ k, V.length = k := ⟨_, rfl⟩
  have hs1 : (M : Int) - (A : Int) = (nu : Int) := by omega
  have hs2 : (B : Int) - (M : Int) = (nv : Int) := by omega
  have hnu1 : ((nu : Int) == 1) = false := by simp; omega
  have hnv1 : ((nv : Int) == 1) = false := by simp; omega
  have hmid : ((A : Int) + (B : Int)) / 2 = (Mi : Int) := by omega
  have hnn : (Mi : Int) + (M : Int) = (Nn : Int) := by omega
  have hpp : (Nn : Int) - 1 = (P : Int) := by omega
  have hbI : (0 : Int) ≤ A ∧ (A : Int) ≤ 1000 ∧ (0 : Int) ≤ B ∧ (B : Int) ≤ 1000 ∧ (0 : Int) ≤ M ∧ (M : Int) ≤ 1000 ∧ (0 : Int) ≤ Mi ∧ (Mi : Int) ≤ 1000 ∧ (0 : Int) ≤ Nn ∧ (Nn : Int) ≤ 2000 ∧ (0 : Int) ≤ P ∧ (P : Int) ≤ 2000 ∧ (n : Int) ≤ 1000 := by omega
  have hini : Hid (S3R w0 g n D lo hi P (hi - lo) (.int .i64 lo) (.int .i64 hi) w) := ⟨lo, hi, rfl, rfl, Nat.le_refl _, by omega, Nat.le_refl _, fun h => absurd h (Nat.lt_irrefl _), fun h => absurd h (Nat.lt_irrefl _), rfl, h⟩
  have hIH : ∀ (w w0 : World) (X U V Y D : List El) (A M B : Nat), D = X ++ (U ++ (V ++ Y)) → Dt w0 g n D w → Sm D → X.length = A → A + U.length = M → M + V.length = B → SrtE U → SrtE V → Sep U V → 0 < U.length → 0 < V.length → U.length + V.length ≤ K →
    Calls Try.prog 80 #[.slice (some ⟨g, 0, none⟩) n c, .int .i64 A, .int .i64 M, .int .i64 B, .func (.func 71) #[] #[]] w (SortPost w0 g n X (U ++ V) Y) := IH
  have hROT : ∀ (w w0 : World) (X U V Y D : List El) (A M B : Nat), D = X ++ (U ++ (V ++ Y)) → Dt w0 g n D w → X.length = A → X.length + U.length = M → X.length + U.length + V.length = B → 0 < U.length → 0 < V.length →
    Calls Try.prog 81 #[.slice (some ⟨g, 0, none⟩) n c, .int .i64 A, .int .i64 M, .int .i64 B, .func (.func 71) #[] #[]] w (MvPost w0 g n (X ++ (V ++ (U ++ Y)))) := fun w w0 X U V Y D A M B h1 h2 h3 h4 h5 h6 h7 => rot_any w w0 g n c X U V Y D h1 h2 hn A M B h3 h4 h5 h6 h7
  have HIH := Lib.hid hIH
  have HROT := Lib.hid hROT
  have HQ := Lib.hid (⟨hA, hM, hB, hBn, hn, hMi, hNn, hP, hlh, hU0, hV0, hK⟩ : X.length = A ∧ A + U.length = M ∧ M + V.length = B ∧ B ≤ n ∧ n ≤ 1000 ∧ (A + B) / 2 = Mi ∧ Mi + M = Nn ∧ Nn - 1 = P ∧ ((Mi < M ∧ lo = Nn - B ∧ hi = Mi) ∨ (M ≤ Mi ∧ lo = A ∧ hi = M)) ∧ 1 < U.length ∧ 1 < V.length ∧ U.length + V.length ≤ K + 1)
  have HD := Lib.hid hD
  have HS := Lib.hid (⟨hU, hV⟩ : _ ∧ _)
  have HSV := Lib.hid hse
  have HSE : Hid (∀ q r, A ≤ q → q < M → M ≤ r → r < B → ps (el D q) ≤ ps (el D r)) := fun q r h1 h2 h3 h4 => by
    have e1 : el D q = el U (q - A) := by
      rw [hD, show q = X.length + (q - A) by omega]
      rw [el_seg (by omega), show X.length + (q - A) - A = q - A by omega]
    have e2 : el D r = el V (r - M) := by
      rw [hD, show X ++ (U ++ (V ++ Y)) = (X ++ U) ++ (V ++ Y) by simp, show r = (X ++ U).length + (r - M) by rw [List.length_append]; omega]
      rw [el_seg (by omega), show (X ++ U).length + (r - M) - M = r - M by rw [List.length_append]; omega]
    rw [e1, e2]
    exact hse _ (el_mem (by omega)) _ (el_mem (by omega))
  have HSM := Lib.hid hsm
  have HLD := Lib.hid hlen
  have hlhI : ((Mi : Int) < (M : Int) ∧ (Nn : Int) - (B : Int) = (lo : Int) ∧ hi = Mi) ∨ (¬ (Mi : Int) < (M : Int) ∧ lo = A ∧ hi = M) := by
    rcases hlh with ⟨h1, h2, h3⟩ | ⟨h1, h2, h3⟩
    · exact .inl ⟨by omega, by omega, h3⟩
    · exact .inr ⟨by omega, h2, h3⟩
  have HLH := Lib.hid hlhI
  have hloI : (0 : Int) ≤ lo ∧ (lo : Int) ≤ 1000 ∧ (0 : Int) ≤ hi ∧ (hi : Int) ≤ 1000 := by omega
  clear hA hM hB hBn hn hMi hNn hP hlh hU0 hV0 hK hD hU hV hsm hlen h hIH hROT IH hlhI hnu hnv hse
  unfold cmpF
  go_enter Try.func80, Try.ntmps80
  go_upto_if 140 with fail
  go_cut [20, 21] (fun v20 v21 wx => v20 = .int .i64 (lo : Nat) ∧ v21 = .int .i64 (hi : Nat) ∧ wx = w)
  case first =>
    as_aux_lemma =>
      rcases HLH.out with ⟨h1, h2, rfl⟩ | ⟨h1, rfl, rfl⟩
      · go_wp2_with fail
        all_goals go_meet
        all_goals exact ⟨rfl, rfl, rfl⟩
      · go_wp2_with fail
        all_goals go_meet
        all_goals exact ⟨rfl, rfl, rfl⟩
  case rest =>
    obtain ⟨rfl, rfl, rfl⟩ := hcut
    clear hs1 hs2 hnu1 hnv1 hmid hnn
    go_wp2_with fail
    go_loopg [20, 21] (hi - lo) (S3R w0 g n D lo hi P)
    case atStart => exact hini.out
    case round =>
      clear hini
      obtain ⟨i, j, rfl, rfl, hli, hij, hjh, h1, h2, hk, h⟩ := hrel
      by_cases hlt : i < j
      · as_aux_lemma =>
          obtain ⟨q, hq⟩ : ∃ q, (i + j) / 2 = q := ⟨_, rfl⟩
          obtain ⟨r, hr⟩ : ∃ r, P - q = r := ⟨_, rfl⟩
          have hiq : i ≤ q ∧ q < j := by omega
          have hb : q < n ∧ r < n ∧ q ≤ P ∧ (n : Int) ≤ 1000 := by
            obtain ⟨hA, hM, hB, hBn, hn, hMi, hNn, hP, hlh, hU0, hV0, hK⟩ := HQ.out
            rcases hlh with ⟨g1, g2, g3⟩ | ⟨g1, g2, g3⟩ <;> omega
          obtain ⟨hqn, hrn, hqP, hnI⟩ := hb
          have hltI : (i : Int) < (j : Int) := by omega
          have hqI : (0 : Int) ≤ q ∧ (q : Int) < n ∧ (0 : Int) ≤ r ∧ (r : Int) < n ∧ (0 : Int) ≤ i ∧ (0 : Int) ≤ j ∧ (j : Int) ≤ 1000 ∧ (i : Int) ≤ 1000 := by omega
          have hqd : ((i : Int) + (j : Int)) / 2 = (q : Int) := by omega
          have hsr : (P : Int) - (q : Int) = (r : Int) := by omega
          have w1 : IntKind.i64.wrap ((P : Int) - (q : Int)) = (r : Int) := by rw [hsr]; exact wr_in (by omega)
          have w2 : IntKind.i64.wrap (r : Int) = (r : Int) := wr_in (by omega)
          obtain ⟨x, hx⟩ : ∃ x, el D r = x := ⟨_, rfl⟩
          obtain ⟨y, hy⟩ : ∃ y, el D q = y := ⟨_, rfl⟩
          have hlD := HLD.out
          have sx := HSM.out x (by rw [← hx]; exact el_mem (by omega))
          have sy := HSM.out y (by rw [← hy]; exact el_mem (by omega))
          have HE := Lib.hid (⟨hiq, hli, hij, hjh, hr⟩ : _ ∧ _ ∧ _ ∧ _ ∧ _)
          obtain ⟨xw, xA, xn, xc⟩ := x
          obtain ⟨yw, yA, yn, yc⟩ := y
          replace sx : 0 ≤ xw ∧ xw ≤ 4294967296 := sx
          replace sy : 0 ≤ yw ∧ yw ≤ 4294967296 := sy
          have H2 := Lib.hid (⟨hrn, hqn, hx, hy⟩ : r < n ∧ q < n ∧ el D r = (xw, xA, xn, xc) ∧ el D q = (yw, yA, yn, yc))
          obtain ⟨d, hd⟩ : ∃ d, xw - yw = d := ⟨_, rfl⟩
          have HC := Lib.hid (⟨hd, sx, sy⟩ : xw - yw = d ∧ (0 ≤ xw ∧ xw ≤ 4294967296) ∧ (0 ≤ yw ∧ yw ≤ 4294967296))
          have HDB : Hid (d < 0 ↔ xw < yw) := by show _ ↔ _; omega
          obtain ⟨a0, a1, b0, b1, -⟩ := TwoS.of H2 h
          clear hd sx sy hx hy hiq hli hij hjh hlD hrn hqn hqP hlt hr
          go_wp2_with fail
          by_cases hd0 : d < 0
          · go_region_held3 (fun w' => w'.cell? ⟨g, r * 2, none⟩ = some (.int .i64 xw) ∧ w'.cell? ⟨g, r * 2 + 1, none⟩ = some (.slice xA xn xc) ∧ w'.cell? ⟨g, q * 2, none⟩ = some (.int .i64 yw) ∧ w'.cell? ⟨g, q * 2 + 1, none⟩ = some (.slice yA yn yc) ∧ Dt w0 g n D w')
              (first | exact TwoS.of H2 hh5 | exact TwoS.of H2 h | exact TwoS.of H2 h.drew)
              (first | (go_at_call 71; (refine (cmp_dt (by first | exact h | exact h.drew) _ _ HC).mono ?_); rintro e w5 ⟨rfl, hh5⟩))
            clear a0 a1 b0 b1 h
            go_wp2_with fail
            go_roundg (q - i)
            case measure => have := hk.out; have := HE.out.1; omega
            case rel =>
              obtain ⟨hiq, hli, hij, hjh, hr⟩ := HE.out
              refine ⟨i, q, rfl, rfl, hli, by omega, by omega, h1, fun _ => ?_, rfl, hh5⟩
              rw [hr, H2.out.2.2.1, H2.out.2.2.2]
              exact .inl (HDB.out.1 hd0)
          · have hd1 : decide (d < 0) = false := by simp; omega
            go_region_held3 (fun w' => w'.cell? ⟨g, r * 2, none⟩ = some (.int .i64 xw) ∧ w'.cell? ⟨g, r * 2 + 1, none⟩ = some (.slice xA xn xc) ∧ w'.cell? ⟨g, q * 2, none⟩ = some (.int .i64 yw) ∧ w'.cell? ⟨g, q * 2 + 1, none⟩ = some (.slice yA yn yc) ∧ Dt w0 g n D w')
              (first | exact TwoS.of H2 hh5 | exact TwoS.of H2 h | exact TwoS.of H2 h.drew)
              (first | (go_at_call 71; (refine (cmp_dt (by first | exact h | exact h.drew) _ _ HC).mono ?_); rintro e w5 ⟨rfl, hh5⟩))
            clear a0 a1 b0 b1 h
            go_wp2_with fail
            go_roundg (j - (q + 1))
            case measure => have := hk.out; have := HE.out.1; omega
            case rel =>
              obtain ⟨hiq, hli, hij, hjh, hr⟩ := HE.out
              refine ⟨q + 1, j, by go_num, rfl, by omega, by omega, hjh, fun _ => ?_, h2, rfl, hh5⟩
              rw [Nat.add_sub_cancel, hr, H2.out.2.2.1, H2.out.2.2.2]
              have h8 := HSE.out q r (by obtain ⟨hA, hM, hB, hBn, hn, hMi, hNn, hP, hlh, hU0, hV0, hK⟩ := HQ.out; rcases hlh with ⟨g1, g2, g3⟩ | ⟨g1, g2, g3⟩ <;> omega) (by obtain ⟨hA, hM, hB, hBn, hn, hMi, hNn, hP, hlh, hU0, hV0, hK⟩ := HQ.out; rcases hlh with ⟨g1, g2, g3⟩ | ⟨g1, g2, g3⟩ <;> omega) (by obtain ⟨hA, hM, hB, hBn, hn, hMi, hNn, hP, hlh, hU0, hV0, hK⟩ := HQ.out; rcases hlh with ⟨g1, g2, g3⟩ | ⟨g1, g2, g3⟩ <;> omega) (by obtain ⟨hA, hM, hB, hBn, hn, hMi, hNn, hP, hlh, hU0, hV0, hK⟩ := HQ.out; rcases hlh with ⟨g1, g2, g3⟩ | ⟨g1, g2, g3⟩ <;> omega)
              rw [H2.out.2.2.1, H2.out.2.2.2] at h8
              exact LeE.of_le (by have := HDB.out; show yw ≤ xw; omega) h8
      · obtain ⟨s, rfl⟩ : ∃ s, i = s := ⟨i, rfl⟩
        obtain rfl : i = j := by omega
        obtain ⟨E, hE⟩ : ∃ E, Nn - i = E := ⟨_, rfl⟩
        have hf : A ≤ i ∧ i ≤ M ∧ i ≤ Mi ∧ Mi ≤ E ∧ E ≤ B ∧ M ≤ E ∧ E = Mi + (M - i) ∧ Mi + M = E + i ∧ A < Mi ∧ Mi < B ∧ i ≤ Nn := by
          obtain ⟨hA, hM, hB, hBn, hn, hMi, hNn, hP, hlh, hU0, hV0, hK⟩ := HQ.out
          rcases hlh with ⟨g1, g2, g3⟩ | ⟨g1, g2, g3⟩ <;> omega
        obtain ⟨f1, f2, f3, f4, f5, f6, f7, f8, f9, f10, f11⟩ := hf
        obtain ⟨U1, U2, hU12, hU1⟩ : ∃ U1 U2, U = U1 ++ U2 ∧ U1.length = i - A := ⟨U.take (i - A), U.drop (i - A), (List.take_append_drop ..).symm, by rw [List.length_take]; have := HQ.out; omega⟩
        obtain ⟨V1, V2, hV12, hV1⟩ : ∃ V1 V2, V = V1 ++ V2 ∧ V1.length = E - M := ⟨V.take (E - M), V.drop (E - M), (List.take_append_drop ..).symm, by rw [List.length_take]; have := HQ.out; omega⟩
        have hU2 : U2.length = M - i := by have := HQ.out.2.1; rw [hU12, List.length_append] at this; omega
        have hV2 : V2.length = B - E := by have := HQ.out.2.2.1; rw [hV12, List.length_append] at this; omega
        have hXl : X.length = A := HQ.out.1
        have e0 : D = (X ++ U1) ++ (U2 ++ (V1 ++ (V2 ++ Y))) := by rw [HD.out, hU12, hV12]; simp
        have lXU : (X ++ U1).length = i := by rw [List.length_append]; omega
        have c1 : 0 < U1.length → 0 < V2.length → LeE (el U1 (U1.length - 1)) (el V2 0) := fun g1 g2 => by
          have hlo : lo < i := by
            obtain ⟨hA, hM, hB, hBn, hn, hMi, hNn, hP, hlh, hU0, hV0, hK⟩ := HQ.out
            rcases hlh with ⟨k1, k2, k3⟩ | ⟨k1, k2, k3⟩ <;> omega
          have h9 := h1.out hlo
          have hPE : P - (i - 1) = E := by have := HQ.out; omega
          have ea : el D (i - 1) = el U1 (U1.length - 1) := by
            rw [e0, show (X ++ U1) ++ (U2 ++ (V1 ++ (V2 ++ Y))) = X ++ (U1 ++ (U2 ++ (V1 ++ (V2 ++ Y)))) by simp, show i - 1 = X.length + (U1.length - 1) by omega]
            exact el_seg (by omega)
          have eb : el D E = el V2 0 := by
            have lx : (((X ++ U1) ++ U2) ++ V1).length = E := by simp only [List.length_append]; omega
            rw [e0, show (X ++ U1) ++ (U2 ++ (V1 ++ (V2 ++ Y))) = (((X ++ U1) ++ U2) ++ V1) ++ (V2 ++ Y) by simp, show E = (((X ++ U1) ++ U2) ++ V1).length + 0 by omega]
            exact el_seg g2
          rw [hPE, ea, eb] at h9
          exact h9
        have c2 : 0 < V1.length → 0 < U2.length → LeE (el V1 (V1.length - 1)) (el U2 0) := fun g1 g2 => by
          have hhi : i < hi := by
            obtain ⟨hA, hM, hB, hBn, hn, hMi, hNn, hP, hlh, hU0, hV0, hK⟩ := HQ.out
            rcases hlh with ⟨k1, k2, k3⟩ | ⟨k1, k2, k3⟩ <;> omega
          have h9 := h2.out hhi
          have hPE : P - i = E - 1 := by have := HQ.out; omega
          have ea : el D i = el U2 0 := by
            rw [e0, show i = (X ++ U1).length + 0 by omega]
            exact el_seg g2
          have eb : el D (E - 1) = el V1 (V1.length - 1) := by
            have lx : ((X ++ U1) ++ U2).length = M := by simp only [List.length_append]; omega
            rw [e0, show (X ++ U1) ++ (U2 ++ (V1 ++ (V2 ++ Y))) = ((X ++ U1) ++ U2) ++ (V1 ++ (V2 ++ Y)) by simp, show E - 1 = ((X ++ U1) ++ U2).length + (V1.length - 1) by omega]
            exact el_seg (by omega)
          rw [hPE, ea, eb] at h9
          exact h9
        have hsE : (Nn : Int) - (i : Int) = (E : Int) := by omega
        have hiI : (0 : Int) ≤ i ∧ (i : Int) ≤ 1000 ∧ (0 : Int) ≤ E ∧ (E : Int) ≤ 1000 := by omega
        have HF := Lib.hid (⟨f1, f2, f3, f4, f5, f6, f7, f8, f9, f10⟩ : _ ∧ _ ∧ _ ∧ _ ∧ _ ∧ _ ∧ _ ∧ _ ∧ _ ∧ _)
        have HSEG := Lib.hid (⟨hU12, hV12, hU1, hV1, hU2, hV2, e0, lXU⟩ : U = U1 ++ U2 ∧ V = V1 ++ V2 ∧ U1.length = i - A ∧ V1.length = E - M ∧ U2.length = M - i ∧ V2.length = B - E ∧ D = (X ++ U1) ++ (U2 ++ (V1 ++ (V2 ++ Y))) ∧ (X ++ U1).length = i)
        have HC1 := Lib.hid (⟨c1, c2⟩ : _ ∧ _)
        clear f1 f2 f3 f4 f5 f6 f7 f8 f9 f10 f11 hU12 hV12 hU1 hV1 hU2 hV2 e0 lXU c1 c2 hE hXl hli hij hjh h1 h2 hpp hlt
        go_upto_region 39 with fail
        go_cut [185] (fun v wx => v = .bool (decide (i < M ∧ M < E)) ∧ wx = wr)
        case first =>
          as_aux_lemma =>
            by_cases g1 : i < M
            · by_cases g2 : M < E
              · have g1I : (i : Int) < (M : Int) := by omega
                have g2I : (M : Int) < (E : Int) := by omega
                go_wp2_with fail
                go_meet
                exact ⟨by rw [decide_eq_true (⟨g1, g2⟩ : _ ∧ _)], rfl⟩
              · have g1I : (i : Int) < (M : Int) := by omega
                have g2I : decide ((M : Int) < (E : Int)) = false := by simp; omega
                go_wp2_with fail
                all_goals go_meet
                all_goals exact ⟨by rw [decide_eq_false (fun h => g2 h.2)], rfl⟩
            · have g1I : decide ((i : Int) < (M : Int)) = false := by simp; omega
              go_wp2_with fail
              all_goals go_meet
              all_goals exact ⟨by rw [decide_eq_false (fun h => g1 h.1)], rfl⟩
        case rest =>
          obtain ⟨rfl, rfl⟩ := hcut
          have HH := Lib.hid h
          clear h
          go_upto_if 185 with fail
          go_cut [] (fun wx => Dt w0 g n ((X ++ U1) ++ (V1 ++ (U2 ++ (V2 ++ Y)))) wx)
          case first =>
            as_aux_lemma =>
              obtain ⟨hU12, hV12, hU1, hV1, hU2, hV2, e0, lXU⟩ := HSEG.out
              obtain ⟨f1, f2, f3, f4, f5, f6, f7, f8, f9, f10⟩ := HF.out
              by_cases g1 : i < M ∧ M < E
              · rw [decide_eq_true g1]
                have hcall := Lib.hid (HROT.out _ w0 (X ++ U1) U2 V1 (V2 ++ Y) D i M E e0 HH.out lXU (by omega) (by omega) (by omega) (by omega))
                clear f1 f2 f3 f4 f5 f6 f7 f8 f9 f10 hU12 hV12 hU1 hV1 hU2 hV2 e0 lXU
                go_wp2_with fail
                refine hcall.out.mono ?_
                rintro e w5 ⟨rfl, h5⟩
                go_wp2_with fail
                go_meet
                exact h5
              · rw [decide_eq_false g1]
                have hsame : (X ++ U1) ++ (V1 ++ (U2 ++ (V2 ++ Y))) = D := by
                  rw [e0]
                  by_cases k1 : i < M
                  · have : V1 = [] := List.eq_nil_of_length_eq_zero (by omega)
                    rw [this]; simp
                  · have : U2 = [] := List.eq_nil_of_length_eq_zero (by omega)
                    rw [this]; simp
                have hd2 := HH.out
                rw [← hsame] at hd2
                have HD2 := Lib.hid hd2
                clear f1 f2 f3 f4 f5 f6 f7 f8 f9 f10 hU12 hV12 hU1 hV1 hU2 hV2 e0 lXU hd2 hsame
                go_wp2_with fail
                all_goals go_meet
                all_goals exact HD2.out
          case rest =>
            have HD2 := Lib.hid hcut
            clear hcut HH
            have hsm2 : Sm ((X ++ U1) ++ (V1 ++ (U2 ++ (V2 ++ Y)))) := HSM.out.perm (by
              rw [HSEG.out.2.2.2.2.2.2.1]
              refine List.Perm.append_left _ ?_
              have e1 : V1 ++ (U2 ++ (V2 ++ Y)) = (V1 ++ U2) ++ (V2 ++ Y) := by simp
              have e2 : U2 ++ (V1 ++ (V2 ++ Y)) = (U2 ++ V1) ++ (V2 ++ Y) := by simp
              rw [e1, e2]
              exact List.Perm.append_right _ List.perm_append_comm)
            have HSM2 := Lib.hid hsm2
            clear hsm2
            go_upto_region 41 with fail
            go_cut [199] (fun v wx => v = .bool (decide (A < i ∧ i < Mi)) ∧ wx = wc)
            case first =>
              as_aux_lemma =>
                by_cases g1 : A < i
                · by_cases g2 : i < Mi
                  · have g1I : (A : Int) < (i : Int) := by omega
                    have g2I : (i : Int) < (Mi : Int) := by omega
                    go_wp2_with fail
                    go_meet
                    exact ⟨by rw [decide_eq_true (⟨g1, g2⟩ : _ ∧ _)], rfl⟩
                  · have g1I : (A : Int) < (i : Int) := by omega
                    have g2I : decide ((i : Int) < (Mi : Int)) = false := by simp; omega
                    go_wp2_with fail
                    all_goals go_meet
                    all_goals exact ⟨by rw [decide_eq_false (fun h => g2 h.2)], rfl⟩
                · have g1I : decide ((A : Int) < (i : Int)) = false := by simp; omega
                  go_wp2_with fail
                  all_goals go_meet
                  all_goals exact ⟨by rw [decide_eq_false (fun h => g1 h.1)], rfl⟩
            case rest =>
              obtain ⟨rfl, rfl⟩ := hcut
              go_upto_if 199 with fail
              go_cut [] (fun wx => S3Z w0 g n X (U1 ++ V1) (U2 ++ (V2 ++ Y)) wx)
              case first =>
                as_aux_lemma =>
                  obtain ⟨hU12, hV12, hU1, hV1, hU2, hV2, e0, lXU⟩ := HSEG.out
                  obtain ⟨f1, f2, f3, f4, f5, f6, f7, f8, f9, f10⟩ := HF.out
                  by_cases g1 : A < i ∧ i < Mi
                  · rw [decide_eq_true g1]
                    have hcall := Lib.hid (HIH.out _ w0 X U1 V1 (U2 ++ (V2 ++ Y)) _ A i Mi (by simp) HD2.out HSM2.out HQ.out.1 (by omega) (by omega) (srt_app.1 (by rw [← hU12]; exact HS.out.1)).1 (srt_app.1 (by rw [← hV12]; exact HS.out.2)).1 (HSV.out.sub (fun p hp => by rw [hU12]; exact List.mem_append_left _ hp) fun p hp => by rw [hV12]; exact List.mem_append_left _ hp) (by omega) (by omega) (by have := HQ.out; omega))
                    clear f1 f2 f3 f4 f5 f6 f7 f8 f9 f10 hU12 hV12 hU1 hV1 hU2 hV2 e0 lXU
                    go_wp2_with fail
                    refine hcall.out.mono ?_
                    rintro e w5 ⟨Z, rfl, h5, hz1, hz2⟩
                    go_wp2_with fail
                    go_meet
                    exact ⟨Z, h5, hz1, hz2⟩
                  · rw [decide_eq_false g1]
                    have hz : S3Z w0 g n X (U1 ++ V1) (U2 ++ (V2 ++ Y)) wc := by
                      have h5 := HD2.out
                      rw [show (X ++ U1) ++ (V1 ++ (U2 ++ (V2 ++ Y))) = X ++ ((U1 ++ V1) ++ (U2 ++ (V2 ++ Y))) by simp] at h5
                      refine ⟨U1 ++ V1, h5, ?_, List.Perm.refl _⟩
                      by_cases k1 : A < i
                      · have : V1 = [] := List.eq_nil_of_length_eq_zero (by omega)
                        rw [this, List.append_nil]; exact (srt_app.1 (by rw [← hU12]; exact HS.out.1)).1
                      · have : U1 = [] := List.eq_nil_of_length_eq_zero (by omega)
                        rw [this, List.nil_append]; exact (srt_app.1 (by rw [← hV12]; exact HS.out.2)).1
                    have HZ := Lib.hid hz
                    clear f1 f2 f3 f4 f5 f6 f7 f8 f9 f10 hU12 hV12 hU1 hV1 hU2 hV2 e0 lXU hz
                    go_wp2_with fail
                    all_goals go_meet
                    all_goals exact HZ.out
              case rest =>
                have HZ1 := Lib.hid hcut
                clear hcut
                clear HD2
                obtain ⟨Z1, h3, z1s, z1p⟩ := HZ1.out
                have hsm3 : Sm (X ++ (Z1 ++ (U2 ++ (V2 ++ Y)))) := HSM2.out.perm (by
                  rw [show (X ++ U1) ++ (V1 ++ (U2 ++ (V2 ++ Y))) = X ++ ((U1 ++ V1) ++ (U2 ++ (V2 ++ Y))) by simp]
                  exact List.Perm.append_left _ (List.Perm.append_right _ z1p))
                have H3 := Lib.hid (⟨h3, z1s, z1p, hsm3⟩ : _ ∧ _ ∧ _ ∧ _)
                clear h3 z1s z1p hsm3 HZ1
                go_upto_region 43 with fail
                go_cut [213] (fun v wx => v = .bool (decide (Mi < E ∧ E < B)) ∧ wx = wc)
                case first =>
                  as_aux_lemma =>
                    by_cases g1 : Mi < E
                    · by_cases g2 : E < B
                      · have g1I : (Mi : Int) < (E : Int) := by omega
                        have g2I : (E : Int) < (B : Int) := by omega
                        go_wp2_with fail
                        go_meet
                        exact ⟨by rw [decide_eq_true (⟨g1, g2⟩ : _ ∧ _)], rfl⟩
                      · have g1I : (Mi : Int) < (E : Int) := by omega
                        have g2I : decide ((E : Int) < (B : Int)) = false := by simp; omega
                        go_wp2_with fail
                        all_goals go_meet
                        all_goals exact ⟨by rw [decide_eq_false (fun h => g2 h.2)], rfl⟩
                    · have g1I : decide ((Mi : Int) < (E : Int)) = false := by simp; omega
                      go_wp2_with fail
                      all_goals go_meet
                      all_goals exact ⟨by rw [decide_eq_false (fun h => g1 h.1)], rfl⟩
                case rest =>
                  obtain ⟨rfl, rfl⟩ := hcut
                  obtain ⟨hU12, hV12, hU1, hV1, hU2, hV2, e0, lXU⟩ := HSEG.out
                  obtain ⟨f1, f2, f3, f4, f5, f6, f7, f8, f9, f10⟩ := HF.out
                  obtain ⟨h3, z1s, z1p, hsm3⟩ := H3.out
                  have hfin : Hid (∀ Z2 wx, Dt w0 g n (X ++ (Z1 ++ (Z2 ++ Y))) wx → SrtE Z2 → Z2.Perm (U2 ++ V2) → SortPost w0 g n X (U ++ V) Y (.returned (.tuple #[])) wx) := fun Z2 wx h5 z2s z2p => by
                    obtain ⟨j1, j2⟩ := sym_join (U1 := U1) (U2 := U2) (V1 := V1) (V2 := V2) (by rw [← hU12]; exact HS.out.1) (by rw [← hV12]; exact HS.out.2) z1p z1s z2p z2s HC1.out.1 HC1.out.2
                    refine ⟨Z1 ++ Z2, rfl, ?_, j1, by rw [hU12, hV12]; exact j2⟩
                    rw [show X ++ ((Z1 ++ Z2) ++ Y) = X ++ (Z1 ++ (Z2 ++ Y)) by simp]
                    exact h5
                  have hl1 : Z1.length = U1.length + V1.length := by rw [z1p.length_eq, List.length_append]
                  have hXl : X.length = A := HQ.out.1
                  by_cases g1 : Mi < E ∧ E < B
                  · as_aux_lemma =>
                      rw [decide_eq_true g1]
                      have hcall := Lib.hid (HIH.out _ w0 (X ++ Z1) U2 V2 Y _ Mi E B (by simp) h3 hsm3 (by rw [List.length_append]; omega) (by omega) (by omega) (srt_app.1 (by rw [← hU12]; exact HS.out.1)).2.1 (srt_app.1 (by rw [← hV12]; exact HS.out.2)).2.1 (HSV.out.sub (fun p hp => by rw [hU12]; exact List.mem_append_right _ hp) fun p hp => by rw [hV12]; exact List.mem_append_right _ hp) (by omega) (by omega) (by have := HQ.out; omega))
                      clear f1 f2 f3 f4 f5 f6 f7 f8 f9 f10 hU12 hV12 hU1 hV1 hU2 hV2 e0 lXU h3 z1s z1p hsm3 hl1 hXl
                      go_wp2_with fail
                      refine hcall.out.mono ?_
                      rintro e w5 ⟨Z2, rfl, h5, hz1, hz2⟩
                      go_wp2_with fail
                      go_end0
                      rw [List.append_assoc] at h5
                      exact hfin.out Z2 _ h5 hz1 hz2
                  · as_aux_lemma =>
                      rw [decide_eq_false g1]
                      have hz2 : SrtE (U2 ++ V2) := by
                        by_cases k1 : Mi < E
                        · have : V2 = [] := List.eq_nil_of_length_eq_zero (by omega)
                          rw [this, List.append_nil]; exact (srt_app.1 (by rw [← hU12]; exact HS.out.1)).2.1
                        · have : U2 = [] := List.eq_nil_of_length_eq_zero (by omega)
                          rw [this, List.nil_append]; exact (srt_app.1 (by rw [← hV12]; exact HS.out.2)).2.1
                      have hd5 := hfin.out (U2 ++ V2) _ (by rw [List.append_assoc]; exact h3) hz2 (List.Perm.refl _)
                      have HD5 := Lib.hid hd5
                      clear f1 f2 f3 f4 f5 f6 f7 f8 f9 f10 hU12 hV12 hU1 hV1 hU2 hV2 e0 lXU h3 z1s z1p hsm3 hl1 hXl hz2 hd5
                      go_wp2_with fail
                      all_goals go_end0
                      all_goals exact HD5.out
end Go.Proofs.Ytckhkkjdibcclaa
