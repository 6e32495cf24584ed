/-
  The walk of the library's stable sort of packs.
-/
import Derived.Test.YtbllgifmidnkhaaSrtS
namespace Go.Proofs.Ytbllgifmidnkhaa
open Go.RowKit
set_option linter.unusedVariables false
theorem sym_any (g n c : Nat) (hn : n ≤ 1000) : ∀ K, SymH g n c K := by
  intro K
  induction K with
  | zero => intro w w0 X U V Y D A M B hD h hs hA hM hB hU hV hU0 hV0 hK; omega
  | succ K ih =>
    intro w w0 X U V Y D A M B hD h hs hA hM hB hU hV hU0 hV0 hK
    by_cases h1 : U.length = 1
    · obtain ⟨u, rfl⟩ : ∃ u, U = [u] := by
        cases U with
        | nil => simp at hU0
        | cons u U => cases U with
          | nil => exact ⟨u, rfl⟩
          | cons u' U => simp at h1
      exact sym1_any w w0 g n c X V Y D u (by rw [hD]; rfl) h hn hs A M B hA (by simpa using hM) hB hV hV0
    · by_cases h2 : V.length = 1
      · obtain ⟨v, rfl⟩ : ∃ v, V = [v] := by
          cases V with
          | nil => simp at hV0
          | cons v V => cases V with
            | nil => exact ⟨v, rfl⟩
            | cons v' V => simp at h2
        exact sym2_any w w0 g n c X U Y D v (by rw [hD]; rfl) h hn hs A M B hA hM (by simpa using hB) hU (by omega)
      · exact sym3_any K w w0 g n c ih X U V Y D A M B hD h hn hs hA hM hB hU hV (by omega) (by omega) hK
theorem ins_nil (w : World) (A : Option Addr) (n c a : Nat) (ha : a ≤ 1000) (F : Value) :
    Calls Try.prog 25 #[.slice A n c, .int .i64 a, .int .i64 a, F] w fun e w' => e = .returned (.tuple #[]) ∧ w = w' := by
  have h1 : ¬ (a : Int) + 1 < (a : Int) := by omega
  have h2 : (0 : Int) ≤ a ∧ (a : Int) ≤ 1000 := by omega
  go_enter Try.func25, Try.ntmps25
  go_wp2_with fail
  go_loopg [8] 0 (fun (_ : Nat) (v : Value) wr => v = .int .i64 ((a : Int) + 1) ∧ wr = w)
  case atStart => exact ⟨rfl, rfl⟩
  case round =>
    obtain ⟨rfl, rfl⟩ := hrel
    go_wp2_with fail
    go_end0
    exact ⟨rfl, rfl⟩
def StPost (w0 : World) (g n : Nat) (D0 : List El) (e : Ending) (w' : World) : Prop := ∃ D, e = .returned (.tuple #[]) ∧ Dt w0 g n D w' ∧ SrtE D ∧ D.Perm D0
def St1R (w0 : World) (g n : Nat) (D0 : List El) (k : Nat) (v7 v8 : Value) (wr : World) : Prop :=
  ∃ (P R : List El) (a b : Nat), v7 = .int .i64 a ∧ v8 = .int .i64 b ∧ Hid (P.length = a) ∧ b = a + 20 ∧ Hid (Pre 20 P) ∧ Dt w0 g n (P ++ R) wr ∧ Hid ((P ++ R).Perm D0) ∧ Hid (k = R.length) ∧ a + R.length = n
def St2R (w0 : World) (g n : Nat) (D0 : List El) (k : Nat) (v6 : Value) (wr : World) : Prop :=
  ∃ (D : List El) (s : Nat), v6 = .int .i64 s ∧ 20 ≤ s ∧ s ≤ 2000 ∧ Hid (Chk s D) ∧ Dt w0 g n D wr ∧ Hid (D.Perm D0) ∧ Hid (k = n - s)
def St3R (w0 : World) (g n : Nat) (D0 : List El) (s : Nat) (k : Nat) (v7 v8 : Value) (wr : World) : Prop :=
  ∃ (P R : List El) (a b : Nat), v7 = .int .i64 a ∧ v8 = .int .i64 b ∧ Hid (P.length = a) ∧ b = a + 2 * s ∧ Hid (Pre (2 * s) P) ∧ Hid (Chk s R) ∧ Dt w0 g n (P ++ R) wr ∧ Hid ((P ++ R).Perm D0) ∧ Hid (k = R.length) ∧ a + R.length = n
def StZ (w0 : World) (g n : Nat) (D0 : List El) (wx : World) : Prop := ∃ D, Dt w0 g n D wx ∧ Chk 20 D ∧ D.Perm D0
set_option maxRecDepth 100000 in
set_option maxHeartbeats 8000000 in
theorem stable_any (w w0 : World) (g n c : Nat) (D0 : List El) (h : Dt w0 g n D0 w) (hn : n ≤ 1000) (hsm : Sm D0) :
    Calls Try.prog 23 #[.slice (some ⟨g, 0, none⟩) n c, .int .i64 n, cmpF] w (StPost w0 g n D0) := by
  have hINS : ∀ (w : World) (X U0 Y : List El) (a b : Nat), Dt w0 g n (X ++ (U0 ++ Y)) w → (X ++ (U0 ++ Y)).Perm D0 → X.length = a → X.length + U0.length = b → 0 < U0.length →
    Calls Try.prog 25 #[.slice (some ⟨g, 0, none⟩) n c, .int .i64 a, .int .i64 b, .func (.func 21) #[] #[]] w (SortPost w0 g n X U0 Y) := fun w X U0 Y a b h1 h2 h3 h4 h5 => by
      have := ins_any w w0 g n c X U0 Y _ rfl h1 hn (hsm.perm h2) h5
      rw [h3] at this h4
      rw [h4] at this
      exact this
  have hSYM : ∀ (w : World) (X U V Y : List El) (A M B : Nat), Dt w0 g n (X ++ (U ++ (V ++ Y))) w → (X ++ (U ++ (V ++ Y))).Perm D0 → X.length = A → A + U.length = M → M + V.length = B → SrtE U → SrtE V → 0 < U.length → 0 < V.length →
    Calls Try.prog 26 #[.slice (some ⟨g, 0, none⟩) n c, .int .i64 A, .int .i64 M, .int .i64 B, .func (.func 21) #[] #[]] w (SortPost w0 g n X (U ++ V) Y) := fun w X U V Y A M B h1 h2 h3 h4 h5 h6 h7 h8 h9 => sym_any g n c hn _ w w0 X U V Y _ A M B rfl h1 (hsm.perm h2) h3 h4 h5 h6 h7 h8 h9 (Nat.le_refl _)
  have HINS := Lib.hid hINS
  have HSYM := Lib.hid hSYM
  have hlen := h.len
  have HN := Lib.hid hn
  have hini : Hid (St1R w0 g n D0 n (.int .i64 0) (.int .i64 20) w) := ⟨[], D0, 0, 20, rfl, rfl, rfl, rfl, Pre.nil_ _, h, List.Perm.refl _, hlen.symm, by omega⟩
  have hnI : (0 : Int) ≤ n ∧ (n : Int) ≤ 1000 := by omega
  clear hINS hSYM hlen h hn hsm
  unfold cmpF
  go_enter Try.func23, Try.ntmps23
  go_wp2_with fail
  go_loopg [7, 8] n (St1R w0 g n D0)
  case atStart => exact hini.out
  case round =>
    clear hini
    obtain ⟨P, R, a, b, rfl, rfl, hP, hb, hpre, h, hperm, hk, ha⟩ := hrel
    have hbI : (0 : Int) ≤ a ∧ (0 : Int) ≤ b ∧ (a : Int) ≤ 1000 ∧ (b : Int) ≤ 2000 ∧ (a : Int) + 20 = (b : Int) := by omega
    by_cases hbn : b ≤ n
    · have hbn' : (b : Int) ≤ (n : Int) := by omega
      obtain ⟨U, Y, hR, hU⟩ : ∃ U Y, R = U ++ Y ∧ U.length = 20 := ⟨R.take 20, R.drop 20, (List.take_append_drop ..).symm, by rw [List.length_take]; omega⟩
      have hcall := Lib.hid (HINS.out wr P U Y a b (by rw [← hR]; exact h) (by rw [← hR]; exact hperm.out) hP.out (by have := hP.out; omega) (by omega))
      have HB := Lib.hid (⟨hb, hR, hU, ha⟩ : b = a + 20 ∧ R = U ++ Y ∧ U.length = 20 ∧ a + R.length = n)
      clear hR hU h hb ha hbn
      go_wp2_with fail
      refine hcall.out.mono ?_
      rintro e w5 ⟨Z, rfl, h5, hz1, hz2⟩
      obtain ⟨b2, hb2⟩ : ∃ b2, b + 20 = b2 := ⟨_, rfl⟩
      have hsb : (b : Int) + 20 = (b2 : Int) := by omega
      have HB2 := Lib.hid hb2
      clear hb2
      go_wp2_with fail
      go_roundg Y.length
      case measure => have := hk.out; have := HB.out; have h9 := congrArg List.length HB.out.2.1; rw [List.length_append] at h9; omega
      case rel =>
        obtain ⟨hb, hR, hU, ha⟩ := HB.out
        have hZl : Z.length = 20 := by rw [hz2.length_eq]; exact hU
        refine ⟨P ++ Z, Y, b, b2, rfl, rfl, by show _ = _; rw [List.length_append, hP.out]; omega, HB2.out.symm, hpre.out.more hZl hz1, by rw [List.append_assoc]; exact h5, ?_, rfl, ?_⟩
        · show _
          rw [List.append_assoc]
          refine (List.Perm.append_left _ (List.Perm.append_right _ hz2)).trans ?_
          rw [← hR]; exact hperm.out
        · have h9 := congrArg List.length hR; rw [List.length_append] at h9; omega
    · have hbn' : ¬ (b : Int) ≤ (n : Int) := by omega
      have hRl : R.length < 20 := by omega
      have HR := Lib.hid (⟨hRl, ha⟩ : R.length < 20 ∧ a + R.length = n)
      clear hb hRl ha hbn
      go_upto_region 6 with fail
      go_cut [] (fun wx => StZ w0 g n D0 wx)
      case first =>
        obtain ⟨hRl, ha⟩ := HR.out
        by_cases hR0 : R.length = 0
        · have hR : R = [] := List.eq_nil_of_length_eq_zero hR0
          subst hR
          have han : a = n := by simpa using ha
          subst han
          have HI := Lib.hid (fun w F => ins_nil w (some ⟨g, 0, none⟩) a c a HN.out F)
          have hz : StZ w0 g a D0 wr := by
            refine ⟨P, by rw [List.append_nil] at h; exact h, ?_, by have := hperm.out; rwa [List.append_nil] at this⟩
            have := hpre.out [] (.last (Nat.zero_le _) SrtE.nil_)
            rwa [List.append_nil] at this
          have HZ := Lib.hid hz
          clear hRl ha hz h hR0
          go_wp2_with fail
          refine (HI.out _ _).mono ?_
          rintro e w5 ⟨rfl, rfl⟩
          go_wp2_with fail
          go_meet
          exact HZ.out
        · have hcall := Lib.hid (HINS.out wr P R [] a n (by rw [List.append_nil]; exact h) (by rw [List.append_nil]; exact hperm.out) hP.out (by have := hP.out; omega) (by omega))
          have HRL := Lib.hid hRl
          clear hRl ha h hR0
          go_wp2_with fail
          refine hcall.out.mono ?_
          rintro e w5 ⟨Z, rfl, h5, hz1, hz2⟩
          go_wp2_with fail
          go_meet
          rw [List.append_nil] at h5
          refine ⟨P ++ Z, h5, hpre.out _ (.last (by rw [hz2.length_eq]; have := HRL.out; omega) hz1), ?_⟩
          exact (List.Perm.append_left _ hz2).trans hperm.out
      case rest =>
        obtain ⟨D, h, hchk, hperm2⟩ := hcut
        have hini : Hid (St2R w0 g n D0 (n - 20) (.int .i64 20) wc) := ⟨D, 20, rfl, Nat.le_refl _, by omega, hchk, h, hperm2, rfl⟩
        clear h hchk hperm2 hP hpre hperm hk HR hbn' hbI
        go_wp2_with fail
        go_loopg [6] (n - 20) (St2R w0 g n D0)
        case atStart => exact hini.out
        case round =>
          clear hini
          obtain ⟨D, s, rfl, hs20, hs2, hchk, h, hperm, hk⟩ := hrel
          by_cases hsn : s < n
          · have hsnI : (s : Int) < (n : Int) := by omega
            obtain ⟨t2, ht2⟩ : ∃ t, 2 * s = t := ⟨_, rfl⟩
            have hst : 2 * (s : Int) = (t2 : Int) := by omega
            have hst' : (s : Int) * 2 = (t2 : Int) := by omega
            have hsI : (20 : Int) ≤ s ∧ (s : Int) ≤ 1000 ∧ (t2 : Int) ≤ 2000 ∧ (0 : Int) ≤ t2 := by omega
            have hlD := h.len
            have hini : Hid (St3R w0 g n D0 s n (.int .i64 0) (.int .i64 t2) wr) := ⟨[], D, 0, t2, rfl, rfl, rfl, by omega, Pre.nil_ _, hchk.out, h, hperm.out, hlD.symm, by omega⟩
            have HS := Lib.hid (⟨hs20, hs2, hsn, ht2⟩ : _ ∧ _ ∧ _ ∧ _)
            clear hs20 hs2 hsn ht2 hchk h hperm hlD
            go_wp2_with fail
            go_loopg [7, 8] n (St3R w0 g n D0 s)
            case atStart => exact hini.out
            case round =>
              clear hini
              obtain ⟨P, R, a, b, rfl, rfl, hP, hb, hpre, hchk, h, hperm, hk3, ha⟩ := hrel
              have hs4 := HS.out
              obtain ⟨M, hM⟩ : ∃ M, a + s = M := ⟨_, rfl⟩
              have hsM : (a : Int) + (s : Int) = (M : Int) := by omega
              have hbI : (0 : Int) ≤ a ∧ (a : Int) ≤ 1000 ∧ (0 : Int) ≤ b ∧ (b : Int) ≤ 3000 ∧ (0 : Int) ≤ M ∧ (M : Int) ≤ 3000 := by omega
              by_cases hbn : b ≤ n
              · have hbn' : (b : Int) ≤ (n : Int) := by omega
                obtain ⟨c1, R1, e1, l1, s1, k1⟩ := hchk.out.head (by omega)
                have hR1 : s ≤ R1.length := by have := congrArg List.length e1; rw [List.length_append] at this; omega
                obtain ⟨c2, R2, e2, l2, s2, k2⟩ := k1.head hR1
                subst e1 e2
                have hcall := Lib.hid (HSYM.out _ P c1 c2 R2 a M b h hperm.out hP.out (by omega) (by omega) s1 s2 (by omega) (by omega))
                obtain ⟨b2, hb2⟩ : ∃ b2, b + t2 = b2 := ⟨_, rfl⟩
                have hsb : (b : Int) + (t2 : Int) = (b2 : Int) := by omega
                have HB := Lib.hid (⟨hb, hM, hb2, l1, l2, k2, ha⟩ : _ ∧ _ ∧ _ ∧ _ ∧ _ ∧ _ ∧ _)
                clear hb hM hb2 l1 l2 k2 ha s1 s2 hR1 h hbn k1 hs4
                go_wp2_with fail
                refine hcall.out.mono ?_
                rintro e w5 ⟨Z, rfl, h5, hz1, hz2⟩
                go_wp2_with fail
                go_roundg R2.length
                case measure => have h1 := hk3.out; simp only [List.length_append] at h1; have := HB.out; have := HS.out; omega
                case rel =>
                  obtain ⟨hb, hM, hb2, l1, l2, k2, ha⟩ := HB.out
                  have hZl : Z.length = 2 * s := by rw [hz2.length_eq, List.length_append]; omega
                  have hs4 := HS.out
                  refine ⟨P ++ Z, R2, b, b2, rfl, rfl, by show _ = _; rw [List.length_append, hP.out]; omega, by omega, hpre.out.more hZl hz1, k2, by rw [List.append_assoc]; exact h5, ?_, rfl, ?_⟩
                  · show _
                    rw [List.append_assoc]
                    refine (List.Perm.append_left _ (List.Perm.append_right _ hz2)).trans ?_
                    rw [List.append_assoc]; exact hperm.out
                  · simp only [List.length_append] at ha; omega
              · have hbn' : ¬ (b : Int) ≤ (n : Int) := by omega
                have HB := Lib.hid (⟨hb, hM, ha, by omega⟩ : b = a + 2 * s ∧ a + s = M ∧ a + R.length = n ∧ R.length < 2 * s)
                by_cases hMn : M < n
                · have hMn' : (M : Int) < (n : Int) := by omega
                  obtain ⟨c1, R1, e1, l1, s1, k1⟩ := hchk.out.head (by omega)
                  subst e1
                  rw [List.length_append] at ha
                  have s2 : SrtE R1 := k1.srt (by omega)
                  have hcall := Lib.hid (HSYM.out _ P c1 R1 [] a M n (by rw [List.append_nil]; exact h) (by rw [List.append_nil]; exact hperm.out) hP.out (by omega) (by omega) s1 s2 (by omega) (by omega))
                  clear hb hM ha hbn hs4 hMn l1 s1 k1 s2 h
                  go_wp2_with fail
                  refine hcall.out.mono ?_
                  rintro e w5 ⟨Z, rfl, h5, hz1, hz2⟩
                  go_wp2_with fail
                  go_roundg (n - t2)
                  case measure => have := hk.out; have := HS.out; omega
                  case rel =>
                    have hs4 := HS.out
                    rw [List.append_nil] at h5
                    refine ⟨P ++ Z, t2, by rw [← hst'], by omega, by omega, ?_, h5, (List.Perm.append_left _ hz2).trans hperm.out, rfl⟩
                    show Chk _ _
                    rw [← hs4.2.2.2]
                    exact hpre.out _ (.last (by rw [hz2.length_eq]; have := HB.out; omega) hz1)
                · have hMn' : ¬ (M : Int) < (n : Int) := by omega
                  have s2 : SrtE R := hchk.out.srt (by omega)
                  have HX := Lib.hid (⟨s2, h⟩ : _ ∧ _)
                  clear hb hM ha hbn hs4 hMn s2 h
                  go_wp2_with fail
                  go_roundg (n - t2)
                  case measure => have := hk.out; have := HS.out; omega
                  case rel =>
                    have hs4 := HS.out
                    refine ⟨P ++ R, t2, by rw [← hst'], by omega, by omega, ?_, HX.out.2, hperm.out, rfl⟩
                    show Chk _ _
                    rw [← hs4.2.2.2]
                    exact hpre.out _ (.last (by have := HB.out; omega) HX.out.1)
          · have hsnI : ¬ (s : Int) < (n : Int) := by omega
            have hsD : SrtE D := hchk.out.srt (by rw [h.len]; omega)
            clear hsn hs20 hs2
            go_wp2_with fail
            go_end0
            exact ⟨D, rfl, h, hsD, hperm.out⟩
theorem stable_nil (w : World) (F : Value) :
    Calls Try.prog 23 #[.slice none 0 0, .int .i64 0, F] w fun e w' => e = .returned (.tuple #[]) ∧ w = w' := by
  have HI := Lib.hid (fun w F => ins_nil w none 0 0 0 (by omega) F)
  go_enter Try.func23, Try.ntmps23
  go_wp2_with fail
  go_loopg [7, 8] 0 (fun (_ : Nat) (v7 v8 : Value) wr => v7 = .int .i64 0 ∧ v8 = .int .i64 20 ∧ wr = w)
  case atStart => exact ⟨rfl, rfl, rfl⟩
  case round =>
    obtain ⟨rfl, rfl, rfl⟩ := hrel
    go_wp2_with fail
    refine (HI.out _ _).mono ?_
    rintro e w5 ⟨rfl, rfl⟩
    go_wp2_with fail
    go_loopg [6] 0 (fun (_ : Nat) (v6 : Value) wx => v6 = .int .i64 20 ∧ wx = wr)
    case atStart => exact ⟨rfl, rfl⟩
    case round =>
      obtain ⟨rfl, rfl⟩ := hrel
      go_wp2_with fail
      go_end0
      exact ⟨rfl, rfl⟩
end Go.Proofs.Ytbllgifmidnkhaa
