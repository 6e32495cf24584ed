/-
  Several texts in one (written by pack2.py): SrtT, PckM.
-/
import Derived.Test.YtckhkkjdibcclaaSrtS
import Derived.Test.YtckhkkjdibcclaaPk16
import Derived.Test.YtckhkkjdibcclaaPk2
import Derived.Test.YtckhkkjdibcclaaStep
/-
  The walk of the library's stable sort of packs.
-/
namespace Go.Proofs.Ytckhkkjdibcclaa
open Go.RowKit
set_option linter.unusedVariables false
theorem sym_any (g n c : Nat) (hn : n ≤ 1000) : ∀ K, SymH g n c K := by
  intro K
  induction K with
  | zero => intro w w0 X U V Y D A M B hD h hs hA hM hB hU hV hU0 hV0 hK; omega
  | succ K ih =>
    intro w w0 X U V Y D A M B hD h hs hA hM hB hU hV hse hU0 hV0 hK
    by_cases h1 : U.length = 1
    · obtain ⟨u, rfl⟩ : ∃ u, U = [u] := by
        cases U with
        | nil => simp at hU0
        | cons u U => cases U with
          | nil => exact ⟨u, rfl⟩
          | cons u' U => simp at h1
      exact sym1_any w w0 g n c X V Y D u (by rw [hD]; rfl) h hn hs A M B hA (by simpa using hM) hB hV hV0 hse
    · by_cases h2 : V.length = 1
      · obtain ⟨v, rfl⟩ : ∃ v, V = [v] := by
          cases V with
          | nil => simp at hV0
          | cons v V => cases V with
            | nil => exact ⟨v, rfl⟩
            | cons v' V => simp at h2
        exact sym2_any w w0 g n c X U Y D v (by rw [hD]; rfl) h hn hs A M B hA hM (by simpa using hB) hU (by omega) hse
      · exact sym3_any K w w0 g n c ih X U V Y D A M B hD h hn hs hA hM hB hU hV hse (by omega) (by omega) hK
theorem ins_nil (w : World) (A : Option Addr) (n c a : Nat) (ha : a ≤ 1000) (F : Value) :
    Calls Try.prog 79 #[.slice A n c, .int .i64 a, .int .i64 a, F] w fun e w' => e = .returned (.tuple #[]) ∧ w = w' := by
  have h1 : ¬ (a : Int) + 1 < (a : Int) := by omega
  have h2 : (0 : Int) ≤ a ∧ (a : Int) ≤ 1000 := by omega
  go_enter Try.func79, Try.ntmps79
  go_wp2_with fail
  go_loopg [8] 0 (fun (_ : Nat) (v : Value) wr => v = .int .i64 ((a : Int) + 1) ∧ wr = w)
  case atStart => exact ⟨rfl, rfl⟩
  case round =>
    obtain ⟨rfl, rfl⟩ := hrel
    go_wp2_with fail
    go_end0
    exact ⟨rfl, rfl⟩
def StPost (w0 : World) (g n : Nat) (D0 : List El) (e : Ending) (w' : World) : Prop := ∃ D, e = .returned (.tuple #[]) ∧ Dt w0 g n D w' ∧ SrtE D ∧ D.Perm D0
def St1R (w0 : World) (g n : Nat) (D0 : List El) (k : Nat) (v7 v8 : Value) (wr : World) : Prop :=
  ∃ (P R : List El) (a b : Nat), v7 = .int .i64 a ∧ v8 = .int .i64 b ∧ Hid (P.length = a) ∧ b = a + 20 ∧ Hid (Pre 20 P) ∧ Dt w0 g n (P ++ R) wr ∧ Hid ((P ++ R).Perm D0) ∧ Hid (k = R.length) ∧ a + R.length = n ∧ Hid (Sep P R ∧ Asc R)
def St2R (w0 : World) (g n : Nat) (D0 : List El) (k : Nat) (v6 : Value) (wr : World) : Prop :=
  ∃ (D : List El) (s : Nat), v6 = .int .i64 s ∧ 20 ≤ s ∧ s ≤ 2000 ∧ Hid (Chk s D) ∧ Dt w0 g n D wr ∧ Hid (D.Perm D0) ∧ Hid (k = n - s)
def St3R (w0 : World) (g n : Nat) (D0 : List El) (s : Nat) (k : Nat) (v7 v8 : Value) (wr : World) : Prop :=
  ∃ (P R : List El) (a b : Nat), v7 = .int .i64 a ∧ v8 = .int .i64 b ∧ Hid (P.length = a) ∧ b = a + 2 * s ∧ Hid (Pre (2 * s) P) ∧ Hid (Chk s R) ∧ Dt w0 g n (P ++ R) wr ∧ Hid ((P ++ R).Perm D0) ∧ Hid (k = R.length) ∧ a + R.length = n ∧ Hid (Sep P R)
def StZ (w0 : World) (g n : Nat) (D0 : List El) (wx : World) : Prop := ∃ D, Dt w0 g n D wx ∧ Chk 20 D ∧ D.Perm D0
set_option maxRecDepth 100000 in
set_option maxHeartbeats 8000000 in
theorem stable_any (w w0 : World) (g n c : Nat) (D0 : List El) (h : Dt w0 g n D0 w) (hn : n ≤ 1000) (hsm : Sm D0) (hasc : Asc D0) :
    Calls Try.prog 76 #[.slice (some ⟨g, 0, none⟩) n c, .int .i64 n, cmpF] w (StPost w0 g n D0) := by
  have hINS : ∀ (w : World) (X U0 Y : List El) (a b : Nat), Dt w0 g n (X ++ (U0 ++ Y)) w → (X ++ (U0 ++ Y)).Perm D0 → X.length = a → X.length + U0.length = b → 0 < U0.length → Asc U0 →
    Calls Try.prog 79 #[.slice (some ⟨g, 0, none⟩) n c, .int .i64 a, .int .i64 b, .func (.func 71) #[] #[]] w (SortPost w0 g n X U0 Y) := fun w X U0 Y a b h1 h2 h3 h4 h5 h6 => by
      have := ins_any w w0 g n c X U0 Y _ rfl h1 hn (hsm.perm h2) h5 h6
      rw [h3] at this h4
      rw [h4] at this
      exact this
  have hSYM : ∀ (w : World) (X U V Y : List El) (A M B : Nat), Dt w0 g n (X ++ (U ++ (V ++ Y))) w → (X ++ (U ++ (V ++ Y))).Perm D0 → X.length = A → A + U.length = M → M + V.length = B → SrtE U → SrtE V → Sep U V → 0 < U.length → 0 < V.length →
    Calls Try.prog 80 #[.slice (some ⟨g, 0, none⟩) n c, .int .i64 A, .int .i64 M, .int .i64 B, .func (.func 71) #[] #[]] w (SortPost w0 g n X (U ++ V) Y) := fun w X U V Y A M B h1 h2 h3 h4 h5 h6 h7 h8 h9 h10 => sym_any g n c hn _ w w0 X U V Y _ A M B rfl h1 (hsm.perm h2) h3 h4 h5 h6 h7 h8 h9 h10 (Nat.le_refl _)
  have HINS := Lib.hid hINS
  have HSYM := Lib.hid hSYM
  have hlen := h.len
  have HN := Lib.hid hn
  have hini : Hid (St1R w0 g n D0 n (.int .i64 0) (.int .i64 20) w) := ⟨[], D0, 0, 20, rfl, rfl, rfl, rfl, Pre.nil_ _, h, List.Perm.refl _, hlen.symm, by omega, ⟨Sep.nil' _, hasc⟩⟩
  have hnI : (0 : Int) ≤ n ∧ (n : Int) ≤ 1000 := by omega
  clear hINS hSYM hlen h hn hsm hasc
  unfold cmpF
  go_enter Try.func76, Try.ntmps76
  go_wp2_with fail
  go_loopg [7, 8] n (St1R w0 g n D0)
  case atStart => exact hini.out
  case round =>
    clear hini
    obtain ⟨P, R, a, b, rfl, rfl, hP, hb, hpre, h, hperm, hk, ha, hse⟩ := hrel
    have hbI : (0 : Int) ≤ a ∧ (0 : Int) ≤ b ∧ (a : Int) ≤ 1000 ∧ (b : Int) ≤ 2000 ∧ (a : Int) + 20 = (b : Int) := by omega
    by_cases hbn : b ≤ n
    · have hbn' : (b : Int) ≤ (n : Int) := by omega
      obtain ⟨U, Y, hR, hU⟩ : ∃ U Y, R = U ++ Y ∧ U.length = 20 := ⟨R.take 20, R.drop 20, (List.take_append_drop ..).symm, by rw [List.length_take]; omega⟩
      have hcall := Lib.hid (HINS.out wr P U Y a b (by rw [← hR]; exact h) (by rw [← hR]; exact hperm.out) hP.out (by have := hP.out; omega) (by omega) (asc_app.1 (by rw [← hR]; exact hse.out.2)).1)
      have HB := Lib.hid (⟨hb, hR, hU, ha⟩ : b = a + 20 ∧ R = U ++ Y ∧ U.length = 20 ∧ a + R.length = n)
      clear hR hU h hb ha hbn
      go_wp2_with fail
      refine hcall.out.mono ?_
      rintro e w5 ⟨Z, rfl, h5, hz1, hz2⟩
      obtain ⟨b2, hb2⟩ : ∃ b2, b + 20 = b2 := ⟨_, rfl⟩
      have hsb : (b : Int) + 20 = (b2 : Int) := by omega
      have HB2 := Lib.hid hb2
      clear hb2
      go_wp2_with fail
      go_roundg Y.length
      case measure => have := hk.out; have := HB.out; have h9 := congrArg List.length HB.out.2.1; rw [List.length_append] at h9; omega
      case rel =>
        obtain ⟨hb, hR, hU, ha⟩ := HB.out
        have hZl : Z.length = 20 := by rw [hz2.length_eq]; exact hU
        refine ⟨P ++ Z, Y, b, b2, rfl, rfl, by show _ = _; rw [List.length_append, hP.out]; omega, HB2.out.symm, hpre.out.more hZl hz1 (hse.out.1.sub (fun p hp => hp) fun p hp => by rw [hR]; exact List.mem_append_left _ (hz2.mem_iff.1 hp)), by rw [List.append_assoc]; exact h5, ?_, rfl, ?_, ?_⟩
        · show _
          rw [List.append_assoc]
          refine (List.Perm.append_left _ (List.Perm.append_right _ hz2)).trans ?_
          rw [← hR]; exact hperm.out
        · have h9 := congrArg List.length hR; rw [List.length_append] at h9; omega
        · have ha3 := asc_app.1 (show Asc (U ++ Y) by rw [← hR]; exact hse.out.2)
          exact ⟨Sep.app (hse.out.1.sub (fun p hp => hp) fun p hp => by rw [hR]; exact List.mem_append_right _ hp) (ha3.2.2.perm hz2 (List.Perm.refl _)), ha3.2.1⟩
    · have hbn' : ¬ (b : Int) ≤ (n : Int) := by omega
      have hRl : R.length < 20 := by omega
      have HR := Lib.hid (⟨hRl, ha⟩ : R.length < 20 ∧ a + R.length = n)
      clear hb hRl ha hbn
      go_upto_region 6 with fail
      go_cut [] (fun wx => StZ w0 g n D0 wx)
      case first =>
        obtain ⟨hRl, ha⟩ := HR.out
        by_cases hR0 : R.length = 0
        · have hR : R = [] := List.eq_nil_of_length_eq_zero hR0
          subst hR
          have han : a = n := by simpa using ha
          subst han
          have HI := Lib.hid (fun w F => ins_nil w (some ⟨g, 0, none⟩) a c a HN.out F)
          have hz : StZ w0 g a D0 wr := by
            refine ⟨P, by rw [List.append_nil] at h; exact h, ?_, by have := hperm.out; rwa [List.append_nil] at this⟩
            have := hpre.out [] (.last (Nat.zero_le _) SrtE.nil_) (Sep.nil_ _)
            rwa [List.append_nil] at this
          have HZ := Lib.hid hz
          clear hRl ha hz h hR0
          go_wp2_with fail
          refine (HI.out _ _).mono ?_
          rintro e w5 ⟨rfl, rfl⟩
          go_wp2_with fail
          go_meet
          exact HZ.out
        · have hcall := Lib.hid (HINS.out wr P R [] a n (by rw [List.append_nil]; exact h) (by rw [List.append_nil]; exact hperm.out) hP.out (by have := hP.out; omega) (by omega) hse.out.2)
          have HRL := Lib.hid hRl
          clear hRl ha h hR0
          go_wp2_with fail
          refine hcall.out.mono ?_
          rintro e w5 ⟨Z, rfl, h5, hz1, hz2⟩
          go_wp2_with fail
          go_meet
          rw [List.append_nil] at h5
          refine ⟨P ++ Z, h5, hpre.out _ (.last (by rw [hz2.length_eq]; have := HRL.out; omega) hz1) (hse.out.1.perm (List.Perm.refl _) hz2), ?_⟩
          exact (List.Perm.append_left _ hz2).trans hperm.out
      case rest =>
        obtain ⟨D, h, hchk, hperm2⟩ := hcut
        have hini : Hid (St2R w0 g n D0 (n - 20) (.int .i64 20) wc) := ⟨D, 20, rfl, Nat.le_refl _, by omega, hchk, h, hperm2, rfl⟩
        clear h hchk hperm2 hP hpre hperm hk HR hbn' hbI hse
        go_wp2_with fail
        go_loopg [6] (n - 20) (St2R w0 g n D0)
        case atStart => exact hini.out
        case round =>
          clear hini
          obtain ⟨D, s, rfl, hs20, hs2, hchk, h, hperm, hk⟩ := hrel
          by_cases hsn : s < n
          · have hsnI : (s : Int) < (n : Int) := by omega
            obtain ⟨t2, ht2⟩ : ∃ t, 2 * s = t := ⟨_, rfl⟩
            have hst : 2 * (s : Int) = (t2 : Int) := by omega
            have hst' : (s : Int) * 2 = (t2 : Int) := by omega
            have hsI : (20 : Int) ≤ s ∧ (s : Int) ≤ 1000 ∧ (t2 : Int) ≤ 2000 ∧ (0 : Int) ≤ t2 := by omega
            have hlD := h.len
            have hini : Hid (St3R w0 g n D0 s n (.int .i64 0) (.int .i64 t2) wr) := ⟨[], D, 0, t2, rfl, rfl, rfl, by omega, Pre.nil_ _, hchk.out, h, hperm.out, hlD.symm, by omega, Sep.nil' _⟩
            have HS := Lib.hid (⟨hs20, hs2, hsn, ht2⟩ : _ ∧ _ ∧ _ ∧ _)
            clear hs20 hs2 hsn ht2 hchk h hperm hlD
            go_wp2_with fail
            go_loopg [7, 8] n (St3R w0 g n D0 s)
            case atStart => exact hini.out
            case round =>
              clear hini
              obtain ⟨P, R, a, b, rfl, rfl, hP, hb, hpre, hchk, h, hperm, hk3, ha, hse⟩ := hrel
              have hs4 := HS.out
              obtain ⟨M, hM⟩ : ∃ M, a + s = M := ⟨_, rfl⟩
              have hsM : (a : Int) + (s : Int) = (M : Int) := by omega
              have hbI : (0 : Int) ≤ a ∧ (a : Int) ≤ 1000 ∧ (0 : Int) ≤ b ∧ (b : Int) ≤ 3000 ∧ (0 : Int) ≤ M ∧ (M : Int) ≤ 3000 := by omega
              by_cases hbn : b ≤ n
              · have hbn' : (b : Int) ≤ (n : Int) := by omega
                obtain ⟨c1, R1, e1, l1, s1, k1, q1⟩ := hchk.out.head (by omega)
                have hR1 : s ≤ R1.length := by have := congrArg List.length e1; rw [List.length_append] at this; omega
                obtain ⟨c2, R2, e2, l2, s2, k2, q2⟩ := k1.head hR1
                subst e1 e2
                have hcall := Lib.hid (HSYM.out _ P c1 c2 R2 a M b h hperm.out hP.out (by omega) (by omega) s1 s2 (q1.sub (fun p hp => hp) fun p hp => List.mem_append_left _ hp) (by omega) (by omega))
                obtain ⟨b2, hb2⟩ : ∃ b2, b + t2 = b2 := ⟨_, rfl⟩
                have hsb : (b : Int) + (t2 : Int) = (b2 : Int) := by omega
                have HB := Lib.hid (⟨hb, hM, hb2, l1, l2, k2, ha⟩ : _ ∧ _ ∧ _ ∧ _ ∧ _ ∧ _ ∧ _)
                clear hb hM hb2 l1 l2 k2 ha s1 s2 hR1 h hbn k1 hs4
                go_wp2_with fail
                refine hcall.out.mono ?_
                rintro e w5 ⟨Z, rfl, h5, hz1, hz2⟩
                go_wp2_with fail
                go_roundg R2.length
                case measure => have h1 := hk3.out; simp only [List.length_append] at h1; have := HB.out; have := HS.out; omega
                case rel =>
                  obtain ⟨hb, hM, hb2, l1, l2, k2, ha⟩ := HB.out
                  have hZl : Z.length = 2 * s := by rw [hz2.length_eq, List.length_append]; omega
                  have hs4 := HS.out
                  have hmem : ∀ p ∈ c1 ++ c2, p ∈ c1 ++ (c2 ++ R2) := fun p hp => by rw [← List.append_assoc]; exact List.mem_append_left _ hp
                  refine ⟨P ++ Z, R2, b, b2, rfl, rfl, by show _ = _; rw [List.length_append, hP.out]; omega, by omega, hpre.out.more hZl hz1 (hse.out.sub (fun p hp => hp) fun p hp => hmem p (hz2.mem_iff.1 hp)), k2, by rw [List.append_assoc]; exact h5, ?_, rfl, ?_, ?_⟩
                  · show _
                    rw [List.append_assoc]
                    refine (List.Perm.append_left _ (List.Perm.append_right _ hz2)).trans ?_
                    rw [List.append_assoc]; exact hperm.out
                  · simp only [List.length_append] at ha; omega
                  · refine Sep.app (hse.out.sub (fun p hp => hp) fun p hp => List.mem_append_right _ (List.mem_append_right _ hp)) (Sep.perm (U := c1 ++ c2) (V := R2) (Sep.app ?_ q2) hz2 (List.Perm.refl _))
                    exact q1.sub (fun p hp => hp) fun p hp => List.mem_append_right _ hp
              · have hbn' : ¬ (b : Int) ≤ (n : Int) := by omega
                have HB := Lib.hid (⟨hb, hM, ha, by omega⟩ : b = a + 2 * s ∧ a + s = M ∧ a + R.length = n ∧ R.length < 2 * s)
                by_cases hMn : M < n
                · have hMn' : (M : Int) < (n : Int) := by omega
                  obtain ⟨c1, R1, e1, l1, s1, k1, q1⟩ := hchk.out.head (by omega)
                  subst e1
                  rw [List.length_append] at ha
                  have s2 : SrtE R1 := k1.srt (by omega)
                  have hcall := Lib.hid (HSYM.out _ P c1 R1 [] a M n (by rw [List.append_nil]; exact h) (by rw [List.append_nil]; exact hperm.out) hP.out (by omega) (by omega) s1 s2 q1 (by omega) (by omega))
                  clear hb hM ha hbn hs4 hMn l1 s1 k1 s2 h
                  go_wp2_with fail
                  refine hcall.out.mono ?_
                  rintro e w5 ⟨Z, rfl, h5, hz1, hz2⟩
                  go_wp2_with fail
                  go_roundg (n - t2)
                  case measure => have := hk.out; have := HS.out; omega
                  case rel =>
                    have hs4 := HS.out
                    rw [List.append_nil] at h5
                    refine ⟨P ++ Z, t2, by rw [← hst'], by omega, by omega, ?_, h5, (List.Perm.append_left _ hz2).trans hperm.out, rfl⟩
                    show Chk _ _
                    rw [← hs4.2.2.2]
                    exact hpre.out _ (.last (by rw [hz2.length_eq]; have := HB.out; omega) hz1) (hse.out.perm (List.Perm.refl _) hz2)
                · have hMn' : ¬ (M : Int) < (n : Int) := by omega
                  have s2 : SrtE R := hchk.out.srt (by omega)
                  have HX := Lib.hid (⟨s2, h⟩ : _ ∧ _)
                  clear hb hM ha hbn hs4 hMn s2 h
                  go_wp2_with fail
                  go_roundg (n - t2)
                  case measure => have := hk.out; have := HS.out; omega
                  case rel =>
                    have hs4 := HS.out
                    refine ⟨P ++ R, t2, by rw [← hst'], by omega, by omega, ?_, HX.out.2, hperm.out, rfl⟩
                    show Chk _ _
                    rw [← hs4.2.2.2]
                    exact hpre.out _ (.last (by have := HB.out; omega) HX.out.1) hse.out
          · have hsnI : ¬ (s : Int) < (n : Int) := by omega
            have hsD : SrtE D := hchk.out.srt (by rw [h.len]; omega)
            clear hsn hs20 hs2
            go_wp2_with fail
            go_end0
            exact ⟨D, rfl, h, hsD, hperm.out⟩
theorem stable_nil (w : World) (F : Value) :
    Calls Try.prog 76 #[.slice none 0 0, .int .i64 0, F] w fun e w' => e = .returned (.tuple #[]) ∧ w = w' := by
  have HI := Lib.hid (fun w F => ins_nil w none 0 0 0 (by omega) F)
  go_enter Try.func76, Try.ntmps76
  go_wp2_with fail
  go_loopg [7, 8] 0 (fun (_ : Nat) (v7 v8 : Value) wr => v7 = .int .i64 0 ∧ v8 = .int .i64 20 ∧ wr = w)
  case atStart => exact ⟨rfl, rfl, rfl⟩
  case round =>
    obtain ⟨rfl, rfl, rfl⟩ := hrel
    go_wp2_with fail
    refine (HI.out _ _).mono ?_
    rintro e w5 ⟨rfl, rfl⟩
    go_wp2_with fail
    go_loopg [6] 0 (fun (_ : Nat) (v6 : Value) wx => v6 = .int .i64 20 ∧ wx = wr)
    case atStart => exact ⟨rfl, rfl⟩
    case round =>
      obtain ⟨rfl, rfl⟩ := hrel
      go_wp2_with fail
      go_end0
      exact ⟨rfl, rfl⟩
end Go.Proofs.Ytckhkkjdibcclaa

/-
  Rows of packs in memory: a row of one's own, append; the lists of symbols that they lead to.
-/
namespace Go.Proofs.Ytckhkkjdibcclaa
open Go.RowKit
set_option linter.unusedVariables false
theorem dF_one (D : List El) (i : Nat) : (dF D i).oneCell' = true := by
  unfold dF sv
  split <;> rfl
theorem el_append (D E : List El) (i : Nat) : el (D ++ E) i = if i < D.length then el D i else el E (i - D.length) := by
  split
  · exact el_app_left (by assumption)
  · exact el_app_right (by omega)
theorem dF_cat (D E : List El) (i : Nat) : cat (D.length * 2) (dF D) (dF E) i = dF (D ++ E) i := by
  have e : dF (D ++ E) i = if i < D.length * 2 then dF D i else dF E (i - D.length * 2) := by
    by_cases h : i < D.length * 2
    · have h1 : i / 2 < D.length := by omega
      have h2 : el (D ++ E) (i / 2) = el D (i / 2) := el_app_left h1
      rw [if_pos h]
      unfold dF
      rw [h2]
    · have h1 : D.length ≤ i / 2 := by omega
      have h2 : el (D ++ E) (i / 2) = el E (i / 2 - D.length) := el_app_right h1
      have h3 : (i - D.length * 2) / 2 = i / 2 - D.length := by omega
      have h4 : (i - D.length * 2) % 2 = i % 2 := by omega
      rw [if_neg h]
      unfold dF
      rw [h2, h3, h4]
  rw [e]
  rfl
/-- a row of packs that is read -/
def RdP (w : World) (B : Nat) (A : Option Addr) (n : Nat) (D : List El) : Prop := n = D.length ∧ Rd w B A (n * 2) (dF D)
/-- a row of packs of one's own -/
def OwnP (w : World) (b0 : Nat) (A : Option Addr) (n c : Nat) (D : List El) : Prop := n = D.length ∧ Own w b0 101 2 A n c (dF D)
section
variable {w w' : World} {b0 B n c : Nat} {A : Option Addr} {D : List El}
theorem OwnP.rd (h : OwnP w b0 A n c D) : RdP w w.heap.size A n D := ⟨h.1, h.2.rd⟩
theorem OwnP.nil_ : OwnP w b0 none 0 0 [] := ⟨rfl, Own.nil_⟩
theorem OwnP.alloc (h : OwnP w b0 A n c D) (o : Obj) : OwnP (w.alloc o) b0 A n c D := ⟨h.1, h.2.alloc o⟩
theorem OwnP.drew (h : OwnP w b0 A n c D) : OwnP w.drew b0 A n c D := h
theorem OwnP.drewN (h : OwnP w b0 A n c D) (q : Nat) : OwnP (w.drewN q) b0 A n c D := h
theorem OwnP.below {B : Nat} (h : OwnP w b0 A n c D) (hb : Below B w w') (hB : ∀ g, blkOf A = some g → g < B) : OwnP w' b0 A n c D := ⟨h.1, h.2.below hb hB⟩
theorem OwnP.keeps (h : OwnP w b0 A n c D) (hb : Below w.heap.size w w') : OwnP w' b0 A n c D := h.below hb fun _ hg => (h.2.lt hg).2
theorem OwnP.more {b1 : Nat} (h : OwnP w b0 A n c D) (hb : b1 ≤ b0) : OwnP w b1 A n c D := ⟨h.1, h.2.more hb⟩
theorem RdP.below (h : RdP w B A n D) (hb : Below B w w') : RdP w' B A n D := ⟨h.1, h.2.below hb⟩
theorem RdP.more {B' : Nat} (h : RdP w B A n D) (hB : B ≤ B') : RdP w B' A n D := ⟨h.1, h.2.more hB⟩
theorem RdP.lit (w : World) (e : El) (t : TypeId) : RdP (w.alloc (.cells #[.int .i64 e.1, .slice e.2.1 e.2.2.1 e.2.2.2] t)) (w.heap.size + 1) (some ⟨w.heap.size, 0, none⟩) 1 [e] := ⟨rfl, fun _ => ⟨_, rfl, by simp, fun i hi => by
  rw [addr0]
  have h := Ar.new w #[.int .i64 e.1, .slice e.2.1 e.2.2.1 e.2.2.2] t (m := 2) (f := dF [e]) rfl (fun i hi => by
    obtain rfl | rfl : i = 0 ∨ i = 1 := by omega
    · rfl
    · rfl)
  exact h.cell (by omega)⟩⟩
theorem pck_info : (Try.prog.info? 101).map (fun i => (i.zero, i.size, i.bytes)) = some (some (.agg #[.int .i64 0, .slice none 0 0]), 2, 32) := by kernel_rfl
theorem run_appP (b0 : Nat) (ty : TypeId) (i : TypeInfo) (hi : Try.prog.info? 101 = some i) (hz : i.zero = some (.agg #[.int .i64 0, .slice none 0 0]))
    (hsize : i.size = 2) (hby : i.bytes = 32) {A : Option Addr} {n c : Nat} {l : List El} (hown : OwnP w b0 A n c l) {B : Nat} {A' : Option Addr} {m c' : Nat} {l' : List El} (hr : RdP w B A' m l')
    (h63 : n + m ≤ 1000000000000) (hbase : b0 ≤ w.heap.size) :
    ∃ A2 c2 w2, (Builtin.append_ #[98, 98] ty #[.slice A n c, .slice A' m c']).run Try.prog w = .ok (.slice A2 (n + m) c2) w2 ∧ OwnP w2 b0 A2 (n + m) c2 (l ++ l') ∧ w.grownBy w2 (blkOf A) ∧ (blkOf A2 = blkOf A ∨ blkOf A2 = some w.heap.size) := by
  obtain ⟨A2, c2, w2, hrun, h2, h3, h4⟩ := run_append_cat (P := Try.prog) w b0 98 ty 101 i _ 2 32 Try.underlying98 hi hz hsize hby rfl (by omega) A n c _ hown.2 B A' m c' _ hr.2 (fun j _ => dF_one l' j) h63 (by omega) hbase
  exact ⟨A2, c2, w2, hrun, ⟨by rw [List.length_append, ← hown.1, ← hr.1], h2.congr fun j hj => by rw [hown.1, dF_cat]⟩, h3, h4⟩
theorem wpList_appP {ops : Array Oper} {rest : List Oper} {o : Oper} {a : Act} {Q : Exit → Act → World → Prop} (b0 : Nat) (i : TypeInfo) (hgd : Region.wanted o (yielded ops a.tmps) = true) (s x : Operand)
    (ho : o.op = .call { callee := .builtin .append, args := #[s, x], argTypes := #[98, 98] }) (hi : Try.prog.info? 101 = some i) (hz : i.zero = some (.agg #[.int .i64 0, .slice none 0 0]))
    (hsize : i.size = 2) (hby : i.bytes = 32) {A : Option Addr} {n c : Nat} {l : List El} (hs : a.eval s = .slice A n c) (hown : OwnP w b0 A n c l)
    {B : Nat} {A' : Option Addr} {m c' : Nat} {l' : List El} (hx : a.eval x = .slice A' m c') (hr : RdP w B A' m l')
    (h63 : n + m ≤ 1000000000000) (hbase : b0 ≤ w.heap.size)
    (h : ∀ A2 c2 w2, OwnP w2 b0 A2 (n + m) c2 (l ++ l') → w.grownBy w2 (blkOf A) → (blkOf A2 = blkOf A ∨ blkOf A2 = some w.heap.size) → wpList Try.prog ops Q rest (a.put o.dst (.slice A2 (n + m) c2)) w2) : wpList Try.prog ops Q (o :: rest) a w := by
  refine wpList_step fun K hK => ?_
  rw [if_pos hgd]
  obtain ⟨A2, c2, w2, hrun, h2, h3, h4⟩ := run_appP b0 o.type i hi hz hsize hby hown (c' := c') hr h63 hbase
  unfold Oper.wp execOp
  simp only [ho, resolve, invoke, builtin, Sem.run_bind, Sem.run_pure, Result.andThen_ok, List.map_toArray, List.map_cons, List.map_nil, hs, hx, hrun]
  exact hK _ _ (h A2 c2 w2 h2 h3 h4)
theorem step_appP {ops : Array Oper} {o : Oper} {a : Act} {K : Act → World → Prop} {Q : Exit → Act → World → Prop} {E : Prop} (b0 : Nat) (i : TypeInfo) (hgd : Region.wanted o (yielded ops a.tmps) = true) (s x : Operand)
    (ho : o.op = .call { callee := .builtin .append, args := #[s, x], argTypes := #[98, 98] }) (hi : Try.prog.info? 101 = some i) (hz : i.zero = some (.agg #[.int .i64 0, .slice none 0 0]))
    (hsize : i.size = 2) (hby : i.bytes = 32) {A : Option Addr} {n c : Nat} {l : List El} (hs : a.eval s = .slice A n c) (hown : OwnP w b0 A n c l)
    {B : Nat} {A' : Option Addr} {m c' : Nat} {l' : List El} (hx : a.eval x = .slice A' m c') (hr : RdP w B A' m l')
    (h63 : n + m ≤ 1000000000000) (hbase : b0 ≤ w.heap.size)
    (h : ∀ A2 c2 w2, OwnP w2 b0 A2 (n + m) c2 (l ++ l') → w.grownBy w2 (blkOf A) → (blkOf A2 = blkOf A ∨ blkOf A2 = some w.heap.size) → K (a.put o.dst (.slice A2 (n + m) c2)) w2) :
    if Region.wanted o (yielded ops a.tmps) = true then Oper.wp Try.prog o a w K Q else E := by
  rw [if_pos hgd]
  obtain ⟨A2, c2, w2, hrun, h2, h3, h4⟩ := run_appP b0 o.type i hi hz hsize hby hown (c' := c') hr h63 hbase
  unfold Oper.wp execOp
  simp only [ho, resolve, invoke, builtin, Sem.run_bind, Sem.run_pure, Result.andThen_ok, List.map_toArray, List.map_cons, List.map_nil, hs, hx, hrun]
  exact h A2 c2 w2 h2 h3 h4
end
/-- the packs of a row mean those of the plain law; their symbols lie below B, not in the block X -/
def Mean (w : World) (B : Nat) (X : Option Nat) (D : List El) (L : List Pk) : Prop :=
  D.length = L.length ∧ ∀ i, i < L.length → (el D i).1 = (L.getD i ⟨0, []⟩).w ∧ RdI .i64 w B (el D i).2.1 (el D i).2.2.1 (L.getD i ⟨0, []⟩).l ∧ (∀ g, X = some g → blkOf (el D i).2.1 ≠ some g)
end Go.Proofs.Ytckhkkjdibcclaa
