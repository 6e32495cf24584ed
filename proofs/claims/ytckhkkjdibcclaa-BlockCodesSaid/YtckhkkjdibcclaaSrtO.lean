/-
  The walks of merging in place, where one side has one pack.
-/
import Derived.Test.YtckhkkjdibcclaaPk16
namespace Go.Proofs.Ytckhkkjdibcclaa
open Go.RowKit
set_option linter.unusedVariables false
theorem srt_take {V : List El} {h : Nat} (hV : SrtE V) (hh : h < V.length) : ∀ q ∈ V.take (h + 1), LeE q (el V h) := fun q hq => by
  obtain ⟨V1, y, V2, e, hl⟩ : ∃ V1 y V2, V = V1 ++ y :: V2 ∧ V1.length = h := ⟨V.take h, V[h], V.drop (h + 1), by simp, by simp; omega⟩
  subst hl
  rw [e] at hV hq ⊢
  rw [el_mid rfl]
  have e2 : (V1 ++ y :: V2).take (V1.length + 1) = V1 ++ [y] := by
    rw [show V1 ++ y :: V2 = (V1 ++ [y]) ++ V2 by simp, List.take_append_of_le_length (by simp), List.take_of_length_le (by simp)]
  rw [e2] at hq
  rcases List.mem_append.1 hq with h1 | h1
  · exact (srt_app.1 hV).2.2 q h1 y List.mem_cons_self
  · rw [List.mem_singleton.1 h1]; exact LeE.rfl' _
theorem srt_drop {V : List El} {h : Nat} (hV : SrtE V) (hh : h < V.length) : ∀ q ∈ V.drop h, LeE (el V h) q := fun q hq => by
  obtain ⟨V1, y, V2, e, hl⟩ : ∃ V1 y V2, V = V1 ++ y :: V2 ∧ V1.length = h := ⟨V.take h, V[h], V.drop (h + 1), by simp, by simp; omega⟩
  subst hl
  rw [e] at hV hq ⊢
  rw [el_mid rfl]
  rw [List.drop_left] at hq
  rcases List.mem_cons.1 hq with h1 | h1
  · rw [h1]; exact LeE.rfl' _
  · exact (List.pairwise_cons.1 (srt_app.1 hV).2.1).1 q h1
theorem el_seg {X V Y : List El} {h : Nat} (hh : h < V.length) : el (X ++ (V ++ Y)) (X.length + h) = el V h := by
  rw [el_app_right (by omega), Nat.add_sub_cancel_left, el_app_left hh]
def S1R (w0 : World) (g n : Nat) (D V : List El) (u : El) (M : Nat) (k : Nat) (v10 v11 : Value) (wr : World) : Prop :=
  ∃ i j : Nat, v10 = .int .i64 i ∧ v11 = .int .i64 j ∧ M ≤ i ∧ i ≤ j ∧ j ≤ M + V.length ∧ Hid (∀ q ∈ V.take (i - M), LeE q u) ∧ Hid (∀ q ∈ V.drop (j - M), LeE u q) ∧ Hid (k = j - i) ∧ Dt w0 g n D wr
def S1M (w0 : World) (g n : Nat) (X V Y : List El) (u : El) (A s : Nat) (k : Nat) (v13 : Value) (wr : World) : Prop :=
  ∃ t D, v13 = .int .i64 ((A + t : Nat) : Int) ∧ t ≤ s ∧ Hid (D = X ++ (V.take t ++ u :: (V.drop t ++ Y))) ∧ Hid (k = s - t) ∧ Dt w0 g n D wr
set_option maxRecDepth 100000 in
set_option maxHeartbeats 8000000 in
theorem sym1_any (w w0 : World) (g n c : Nat) (X V Y D : List El) (u : El) (hD : D = X ++ (u :: (V ++ Y))) (h : Dt w0 g n D w) (hn : n ≤ 1000) (hsm : Sm D) (A M B : Nat) (hA : X.length = A) (hM : A + 1 = M) (hB : M + V.length = B) (hV : SrtE V) (hV0 : 0 < V.length) (hse : Sep [u] V) :
    Calls Try.prog 80 #[.slice (some ⟨g, 0, none⟩) n c, .int .i64 A, .int .i64 M, .int .i64 B, cmpF] w (SortPost w0 g n X (u :: V) Y) := by
  have hlen := h.len
  have hBn : B ≤ n := by rw [← hlen, hD]; simp only [List.length_append, List.length_cons]; omega
  have eu : el D A = u := by rw [hD]; exact el_mid hA.symm
  have ev : ∀ q, q < V.length → el D (M + q) = el V q := fun q hq => by
    rw [hD, show X ++ (u :: (V ++ Y)) = (X ++ [u]) ++ (V ++ Y) by simp, show M + q = (X ++ [u]).length + q by rw [List.length_append, List.length_singleton]; omega]
    exact el_seg hq
  have hini : Hid (S1R w0 g n D V u M V.length (.int .i64 M) (.int .i64 B) w) := ⟨M, B, rfl, rfl, Nat.le_refl _, by omega, by omega, fun q hq => by simp at hq, fun q hq => by rw [← hB, Nat.add_sub_cancel_left, List.drop_length] at hq; simp at hq, by show _ = _; omega, h⟩
  have hbI : (0 : Int) ≤ A ∧ (A : Int) ≤ 1000 ∧ (0 : Int) ≤ B ∧ (B : Int) ≤ 1000 ∧ (0 : Int) ≤ M ∧ (M : Int) ≤ 1000 ∧ (A : Int) < n ∧ (n : Int) ≤ 1000 := by omega
  have hs1 : (M : Int) - (A : Int) = 1 := by omega
  have HA := Lib.hid (⟨hA, hM, hB, hBn, hn⟩ : _ ∧ _ ∧ _ ∧ _ ∧ _)
  have HD := Lib.hid hD
  have HU := Lib.hid eu
  have HV := Lib.hid ev
  have HVS := Lib.hid (⟨hV, hV0⟩ : _ ∧ _)
  have HSE : Hid (∀ q, q < V.length → ps u ≤ ps (el V q)) := fun q hq => hse u List.mem_cons_self _ (el_mem hq)
  have HSM := Lib.hid hsm
  have HLD := Lib.hid hlen
  clear hA hM hB hBn hn hD eu ev hV hV0 hsm hlen h hse
  unfold cmpF
  go_enter Try.func80, Try.ntmps80
  go_wp2_with fail
  go_loopg [10, 11] V.length (S1R w0 g n D V u M)
  case atStart => exact hini.out
  case round =>
    clear hini
    obtain ⟨i, j, rfl, rfl, hMi, hij, hjV, h1, h2, hk, h⟩ := hrel
    by_cases hlt : i < j
    · obtain ⟨q, hq⟩ : ∃ q, (i + j) / 2 = q := ⟨_, rfl⟩
      have hiq : i ≤ q ∧ q < j := by omega
      have hBn : B ≤ n := HA.out.2.2.2.1
      have hMV : M + V.length = B := HA.out.2.2.1
      have hltI : (i : Int) < (j : Int) := by omega
      have hqI : (0 : Int) ≤ q ∧ (q : Int) < n ∧ (0 : Int) ≤ i ∧ (0 : Int) ≤ j ∧ (j : Int) ≤ 1000 ∧ (i : Int) ≤ 1000 := by omega
      have hqd : ((i : Int) + (j : Int)) / 2 = (q : Int) := by omega
      have hqV : q - M < V.length := by omega
      obtain ⟨v, hv⟩ : ∃ v, el V (q - M) = v := ⟨_, rfl⟩
      have ev : el D q = v := by rw [← hv, ← HV.out (q - M) hqV]; congr 1; omega
      have hlD := HLD.out
      have hAn : A < n := by omega
      have sv1 := HSM.out v (by rw [← ev]; exact el_mem (by omega))
      have su1 := HSM.out u (by rw [← HU.out]; exact el_mem (by omega))
      have HVV := Lib.hid (⟨hv, hqV, hiq, hMi, hij, hjV⟩ : _ ∧ _ ∧ _ ∧ _ ∧ _ ∧ _)
      have HUU := HU.out
      obtain ⟨vw, vA, vn, vc⟩ := v
      obtain ⟨uw, uA, un, uc⟩ := u
      replace sv1 : 0 ≤ vw ∧ vw ≤ 4294967296 := sv1
      replace su1 : 0 ≤ uw ∧ uw ≤ 4294967296 := su1
      have H2 := Lib.hid (⟨by omega, hAn, ev, HUU⟩ : q < n ∧ A < n ∧ el D q = (vw, vA, vn, vc) ∧ el D A = (uw, uA, un, uc))
      obtain ⟨d, hd⟩ : ∃ d, vw - uw = d := ⟨_, rfl⟩
      have HC := Lib.hid (⟨hd, sv1, su1⟩ : vw - uw = d ∧ (0 ≤ vw ∧ vw ≤ 4294967296) ∧ (0 ≤ uw ∧ uw ≤ 4294967296))
      have HDB : Hid (d < 0 ↔ vw < uw) := by show _ ↔ _; omega
      obtain ⟨a0, a1, b0, b1, -⟩ := TwoS.of H2 h
      clear hd sv1 su1 ev hv hqV hiq hMi hij hjV hlD hAn HUU hBn hMV hlt
      go_wp2_with fail
      by_cases hd0 : d < 0
      · go_region_held3 (fun w' => w'.cell? ⟨g, q * 2, none⟩ = some (.int .i64 vw) ∧ w'.cell? ⟨g, q * 2 + 1, none⟩ = some (.slice vA vn vc) ∧ w'.cell? ⟨g, A * 2, none⟩ = some (.int .i64 uw) ∧ w'.cell? ⟨g, A * 2 + 1, none⟩ = some (.slice uA un uc) ∧ Dt w0 g n D w')
          (first | exact TwoS.of H2 hh5 | exact TwoS.of H2 h | exact TwoS.of H2 h.drew)
          (first | (go_at_call 71; (refine (cmp_dt (by first | exact h | exact h.drew) _ _ HC).mono ?_); rintro e w5 ⟨rfl, hh5⟩))
        clear a0 a1 b0 b1 h
        go_wp2_with fail
        go_roundg (j - (q + 1))
        case measure => have := hk.out; have := HVV.out.2.2.1; omega
        case rel =>
          obtain ⟨hv, hqV, hiq, hMi, hij, hjV⟩ := HVV.out
          refine ⟨q + 1, j, by go_num, rfl, by omega, by omega, hjV, fun p hp => ?_, h2, rfl, hh5⟩
          rw [show q + 1 - M = q - M + 1 by omega] at hp
          have := srt_take HVS.out.1 hqV p hp
          rw [hv] at this
          exact this.trans (.inl (HDB.out.1 hd0))
      · have hd1 : decide (d < 0) = false := by simp; omega
        go_region_held3 (fun w' => w'.cell? ⟨g, q * 2, none⟩ = some (.int .i64 vw) ∧ w'.cell? ⟨g, q * 2 + 1, none⟩ = some (.slice vA vn vc) ∧ w'.cell? ⟨g, A * 2, none⟩ = some (.int .i64 uw) ∧ w'.cell? ⟨g, A * 2 + 1, none⟩ = some (.slice uA un uc) ∧ Dt w0 g n D w')
          (first | exact TwoS.of H2 hh5 | exact TwoS.of H2 h | exact TwoS.of H2 h.drew)
          (first | (go_at_call 71; (refine (cmp_dt (by first | exact h | exact h.drew) _ _ HC).mono ?_); rintro e w5 ⟨rfl, hh5⟩))
        clear a0 a1 b0 b1 h
        go_wp2_with fail
        go_roundg (q - i)
        case measure => have := hk.out; have := HVV.out.2.2.1; omega
        case rel =>
          obtain ⟨hv, hqV, hiq, hMi, hij, hjV⟩ := HVV.out
          refine ⟨i, q, rfl, rfl, hMi, by omega, by omega, h1, fun p hp => ?_, rfl, hh5⟩
          have := srt_drop HVS.out.1 hqV p hp
          rw [hv] at this
          have h8 := HSE.out _ hqV
          rw [hv] at h8
          exact (LeE.of_le (by have h9 := HDB.out; show uw ≤ vw; omega) h8).trans this
    · obtain rfl : i = j := by omega
      obtain ⟨s, hs⟩ : ∃ s, i - M = s := ⟨_, rfl⟩
      have his : i = A + 1 + s := by have := HA.out.2.1; omega
      have hsub : (i : Int) - 1 = ((A + s : Nat) : Int) := by omega
      have hiI : (0 : Int) ≤ i ∧ (i : Int) ≤ 1000 := by have := HA.out; omega
      have hini : Hid (S1M w0 g n X V Y u A s s (.int .i64 A) wr) := ⟨0, D, rfl, Nat.zero_le _, by show D = _; rw [HD.out]; simp, rfl, h⟩
      rw [hs] at h1 h2
      have HI := Lib.hid (⟨his, hs, hMi, hjV⟩ : _ ∧ _ ∧ _ ∧ _)
      obtain ⟨E, hE⟩ : ∃ E, A + s = E := ⟨_, rfl⟩
      rw [hE] at hsub
      have hEI : (0 : Int) ≤ E ∧ (E : Int) ≤ 1000 := by omega
      have HE := Lib.hid hE
      clear his hs hij hMi hjV hlt h hE
      go_wp2_with fail
      go_loopg [13] s (S1M w0 g n X V Y u A s)
      case atStart => exact hini.out
      case round =>
        clear hini
        obtain ⟨t, D1, rfl, hts, hD1, hk3, h⟩ := hrel
        have hl1 := h.len
        have hBn := HA.out
        have hi4 := HI.out
        by_cases htl : t < s
        · have htV : t < V.length := by omega
          obtain ⟨p, hp⟩ : ∃ p, A + t = p := ⟨_, rfl⟩
          obtain ⟨p1, hp1⟩ : ∃ p1, p + 1 = p1 := ⟨_, rfl⟩
          obtain ⟨y, hy⟩ : ∃ y, el V t = y := ⟨_, rfl⟩
          have hdr : V.drop t = y :: V.drop (t + 1) := by rw [List.drop_eq_getElem_cons htV, ← hy]; simp [el, htV]
          have htk : V.take (t + 1) = V.take t ++ [y] := by rw [List.take_succ_eq_append_getElem htV, ← hy]; simp [el, htV]
          have e0 : D1 = (X ++ V.take t) ++ u :: ([] ++ y :: (V.drop (t + 1) ++ Y)) := by rw [hD1.out, hdr]; simp
          have l1 : (X ++ V.take t).length = p := by rw [List.length_append, List.length_take]; omega
          have ex : el D1 p = u := by rw [e0]; exact el_mid l1.symm
          have ey : el D1 p1 = y := by
            rw [e0, show (X ++ V.take t) ++ u :: ([] ++ y :: (V.drop (t + 1) ++ Y)) = ((X ++ V.take t) ++ [u]) ++ y :: (V.drop (t + 1) ++ Y) by simp]
            exact el_mid (by rw [List.length_append, l1, List.length_singleton]; omega)
          obtain ⟨xw, xA, xn, xc⟩ := u
          obtain ⟨yw, yA, yn, yc⟩ := y
          have H2 := Lib.hid (⟨by omega, by omega, ex, ey⟩ : p < n ∧ p1 < n ∧ el D1 p = (xw, xA, xn, xc) ∧ el D1 p1 = (yw, yA, yn, yc))
          obtain ⟨a0, a1, b0, b1, -⟩ := TwoS.of H2 h
          have za0 := h.z (i := p * 2) (by omega)
          have za1 := h.z (i := p * 2 + 1) (by omega)
          have zb0 := h.z (i := p1 * 2) (by omega)
          have zb1 := h.z (i := p1 * 2 + 1) (by omega)
          obtain ⟨z0, c1, z1, c2, z2, c3, z3⟩ := h.stores H2.out.1 H2.out.2.1 (.int .i64 yw) (.slice yA yn yc) (.int .i64 xw)
          have hne2 : ¬ p * 2 = p1 * 2 := by omega
          have hpI : (0 : Int) ≤ p ∧ (p : Int) < n ∧ (0 : Int) ≤ p1 ∧ (p1 : Int) < n ∧ (p : Int) < (E : Int) := by have := HE.out; omega
          have hsp : (p : Int) + 1 = (p1 : Int) := by omega
          have w1 : IntKind.i64.wrap ((p : Int) + 1) = (p1 : Int) := by rw [hsp]; exact wr_in (by omega)
          have w3 : IntKind.i64.wrap (p1 : Int) = (p1 : Int) := wr_in (by omega)
          have HE0 := Lib.hid (⟨e0, l1, hp, hp1, htl, htk⟩ : _ ∧ _ ∧ _ ∧ _ ∧ _ ∧ _)
          rw [hp]
          clear e0 l1 ex ey hp hp1 htl htk hdr htV hy hl1 hBn hi4 hts
          go_wp2_with fail
          go_region
          have h6 := (h.swp H2.out.1 H2.out.2.1 (by have := HE0.out.2.2.2.1; omega)).drew
          rw [H2.out.2.2.1, H2.out.2.2.2] at h6
          clear za0 za1 zb0 zb1 a0 a1 b0 b1 h w1 w3 z0 c1 z1 c2 z2 c3 z3 hne2
          all_goals
            go_wp2_with fail
            go_roundg (s - (t + 1))
            case measure => have := hk3.out; have := HE0.out.2.2.2.2.1; omega
            case rel =>
              obtain ⟨e0, l1, hp, hp1, htl, htk⟩ := HE0.out
              refine ⟨t + 1, _, by go_num, htl, ?_, rfl, h6⟩
              show _ = _
              rw [e0, swp_mid l1.symm (by rw [l1, ← hp1]; rfl), htk]
              simp
        · obtain rfl : s = t := by omega
          have hpE : ¬ ((A + s : Nat) : Int) < (E : Int) := by have := HE.out; omega
          obtain ⟨p, hp⟩ : ∃ p, A + s = p := ⟨_, rfl⟩
          rw [hp] at hpE ⊢
          clear hp htl hts hl1 hBn hi4
          go_wp2_with fail
          go_end0
          rw [hD1.out] at h
          have hsrt := ins_srt (x := u) (U1 := V.take s) (U2 := V.drop s) (by rw [List.take_append_drop]; exact HVS.out.1) h2.out h1.out
          refine ⟨V.take s ++ u :: V.drop s, rfl, ?_, hsrt, ?_⟩
          · have e : X ++ ((V.take s ++ u :: V.drop s) ++ Y) = X ++ (V.take s ++ u :: (V.drop s ++ Y)) := by simp
            rw [e]; exact h
          · refine List.perm_middle.trans ?_
            rw [List.take_append_drop]
def S2R (w0 : World) (g n : Nat) (D U : List El) (v : El) (A : Nat) (k : Nat) (v14 v15 : Value) (wr : World) : Prop :=
  ∃ i j : Nat, v14 = .int .i64 i ∧ v15 = .int .i64 j ∧ A ≤ i ∧ i ≤ j ∧ j ≤ A + U.length ∧ Hid (∀ q ∈ U.take (i - A), LeE q v) ∧ Hid (∀ q ∈ U.drop (j - A), LeE v q) ∧ Hid (k = j - i) ∧ Dt w0 g n D wr
def S2M (w0 : World) (g n : Nat) (X U Y : List El) (v : El) (A s : Nat) (k : Nat) (v17 : Value) (wr : World) : Prop :=
  ∃ t D, v17 = .int .i64 ((A + t : Nat) : Int) ∧ s ≤ t ∧ t ≤ U.length ∧ Hid (D = X ++ (U.take t ++ v :: (U.drop t ++ Y))) ∧ Hid (k = t - s) ∧ Dt w0 g n D wr
set_option maxRecDepth 100000 in
set_option maxHeartbeats 8000000 in
theorem sym2_any (w w0 : World) (g n c : Nat) (X U Y D : List El) (v : El) (hD : D = X ++ (U ++ (v :: Y))) (h : Dt w0 g n D w) (hn : n ≤ 1000) (hsm : Sm D) (A M B : Nat) (hA : X.length = A) (hM : A + U.length = M) (hB : M + 1 = B) (hU : SrtE U) (hU0 : 1 < U.length) (hse : Sep U [v]) :
    Calls Try.prog 80 #[.slice (some ⟨g, 0, none⟩) n c, .int .i64 A, .int .i64 M, .int .i64 B, cmpF] w (SortPost w0 g n X (U ++ [v]) Y) := by
  have hlen := h.len
  have hBn : B ≤ n := by rw [← hlen, hD]; simp only [List.length_append, List.length_cons]; omega
  have ev : el D M = v := by rw [hD, show X ++ (U ++ (v :: Y)) = (X ++ U) ++ v :: Y by simp]; exact el_mid (by rw [List.length_append]; omega)
  have eu : ∀ q, q < U.length → el D (A + q) = el U q := fun q hq => by
    rw [hD, ← hA]
    exact el_seg hq
  have hini : Hid (S2R w0 g n D U v A U.length (.int .i64 A) (.int .i64 M) w) := ⟨A, M, rfl, rfl, Nat.le_refl _, by omega, by omega, fun q hq => by simp at hq, fun q hq => by rw [← hM, Nat.add_sub_cancel_left, List.drop_length] at hq; simp at hq, by show _ = _; omega, h⟩
  have hbI : (0 : Int) ≤ A ∧ (A : Int) ≤ 1000 ∧ (0 : Int) ≤ B ∧ (B : Int) ≤ 1000 ∧ (0 : Int) ≤ M ∧ (M : Int) ≤ 1000 ∧ (M : Int) < n ∧ (n : Int) ≤ 1000 := by omega
  obtain ⟨nu, hnu⟩ : ∃ k, U.length = k := ⟨_, rfl⟩
  have hs1 : (M : Int) - (A : Int) = (nu : Int) := by omega
  have hs2 : (B : Int) - (M : Int) = 1 := by omega
  have hnu1 : ((nu : Int) == 1) = false := by simp; omega
  have HA := Lib.hid (⟨hA, hM, hB, hBn, hn⟩ : _ ∧ _ ∧ _ ∧ _ ∧ _)
  have HD := Lib.hid hD
  have HV := Lib.hid ev
  have HU := Lib.hid eu
  have HUS := Lib.hid (⟨hU, hU0⟩ : _ ∧ _)
  have HSE : Hid (∀ q, q < U.length → ps (el U q) ≤ ps v) := fun q hq => hse _ (el_mem hq) v List.mem_cons_self
  have HSM := Lib.hid hsm
  have HLD := Lib.hid hlen
  clear hA hM hB hBn hn hD eu ev hU hU0 hsm hlen h hnu hse
  unfold cmpF
  go_enter Try.func80, Try.ntmps80
  go_wp2_with fail
  go_loopg [14, 15] U.length (S2R w0 g n D U v A)
  case atStart => exact hini.out
  case round =>
    clear hini hs1 hs2 hnu1
    obtain ⟨i, j, rfl, rfl, hMi, hij, hjV, h1, h2, hk, h⟩ := hrel
    by_cases hlt : i < j
    · obtain ⟨q, hq⟩ : ∃ q, (i + j) / 2 = q := ⟨_, rfl⟩
      have hiq : i ≤ q ∧ q < j := by omega
      have hBn : B ≤ n := HA.out.2.2.2.1
      have hMB : M + 1 = B := HA.out.2.2.1
      have hMV : A + U.length = M := HA.out.2.1
      have hltI : (i : Int) < (j : Int) := by omega
      have hqI : (0 : Int) ≤ q ∧ (q : Int) < n ∧ (0 : Int) ≤ i ∧ (0 : Int) ≤ j ∧ (j : Int) ≤ 1000 ∧ (i : Int) ≤ 1000 := by omega
      have hqd : ((i : Int) + (j : Int)) / 2 = (q : Int) := by omega
      have hqV : q - A < U.length := by omega
      obtain ⟨u, hu⟩ : ∃ u, el U (q - A) = u := ⟨_, rfl⟩
      have eu : el D q = u := by rw [← hu, ← HU.out (q - A) hqV]; congr 1; omega
      have hlD := HLD.out
      have hMn : M < n := by omega
      have su1 := HSM.out u (by rw [← eu]; exact el_mem (by omega))
      have sv1 := HSM.out v (by rw [← HV.out]; exact el_mem (by omega))
      have HUU := Lib.hid (⟨hu, hqV, hiq, hMi, hij, hjV⟩ : _ ∧ _ ∧ _ ∧ _ ∧ _ ∧ _)
      have HVV := HV.out
      obtain ⟨vw, vA, vn, vc⟩ := v
      obtain ⟨uw, uA, un, uc⟩ := u
      replace sv1 : 0 ≤ vw ∧ vw ≤ 4294967296 := sv1
      replace su1 : 0 ≤ uw ∧ uw ≤ 4294967296 := su1
      have H2 := Lib.hid (⟨hMn, by omega, HVV, eu⟩ : M < n ∧ q < n ∧ el D M = (vw, vA, vn, vc) ∧ el D q = (uw, uA, un, uc))
      obtain ⟨d, hd⟩ : ∃ d, vw - uw = d := ⟨_, rfl⟩
      have HC := Lib.hid (⟨hd, sv1, su1⟩ : vw - uw = d ∧ (0 ≤ vw ∧ vw ≤ 4294967296) ∧ (0 ≤ uw ∧ uw ≤ 4294967296))
      have HDB : Hid (d < 0 ↔ vw < uw) := by show _ ↔ _; omega
      obtain ⟨a0, a1, b0, b1, -⟩ := TwoS.of H2 h
      clear hd sv1 su1 eu hu hqV hiq hMi hij hjV hlD hMn HVV hBn hMV hMB hlt
      go_wp2_with fail
      by_cases hd0 : d < 0
      · go_region_held3 (fun w' => w'.cell? ⟨g, M * 2, none⟩ = some (.int .i64 vw) ∧ w'.cell? ⟨g, M * 2 + 1, none⟩ = some (.slice vA vn vc) ∧ w'.cell? ⟨g, q * 2, none⟩ = some (.int .i64 uw) ∧ w'.cell? ⟨g, q * 2 + 1, none⟩ = some (.slice uA un uc) ∧ Dt w0 g n D w')
          (first | exact TwoS.of H2 hh5 | exact TwoS.of H2 h | exact TwoS.of H2 h.drew)
          (first | (go_at_call 71; (refine (cmp_dt (by first | exact h | exact h.drew) _ _ HC).mono ?_); rintro e w5 ⟨rfl, hh5⟩))
        clear a0 a1 b0 b1 h
        go_wp2_with fail
        go_roundg (q - i)
        case measure => have := hk.out; have := HUU.out.2.2.1; omega
        case rel =>
          obtain ⟨hu, hqV, hiq, hMi, hij, hjV⟩ := HUU.out
          refine ⟨i, q, rfl, rfl, hMi, by omega, by omega, h1, fun p hp => ?_, rfl, hh5⟩
          have := srt_drop HUS.out.1 hqV p hp
          rw [hu] at this
          exact LeE.trans (.inl (HDB.out.1 hd0)) this
      · have hd1 : decide (d < 0) = false := by simp; omega
        go_region_held3 (fun w' => w'.cell? ⟨g, M * 2, none⟩ = some (.int .i64 vw) ∧ w'.cell? ⟨g, M * 2 + 1, none⟩ = some (.slice vA vn vc) ∧ w'.cell? ⟨g, q * 2, none⟩ = some (.int .i64 uw) ∧ w'.cell? ⟨g, q * 2 + 1, none⟩ = some (.slice uA un uc) ∧ Dt w0 g n D w')
          (first | exact TwoS.of H2 hh5 | exact TwoS.of H2 h | exact TwoS.of H2 h.drew)
          (first | (go_at_call 71; (refine (cmp_dt (by first | exact h | exact h.drew) _ _ HC).mono ?_); rintro e w5 ⟨rfl, hh5⟩))
        clear a0 a1 b0 b1 h
        go_wp2_with fail
        go_roundg (j - (q + 1))
        case measure => have := hk.out; have := HUU.out.2.2.1; omega
        case rel =>
          obtain ⟨hu, hqV, hiq, hMi, hij, hjV⟩ := HUU.out
          refine ⟨q + 1, j, by go_num, rfl, by omega, by omega, hjV, fun p hp => ?_, h2, rfl, hh5⟩
          rw [show q + 1 - A = q - A + 1 by omega] at hp
          have := srt_take HUS.out.1 hqV p hp
          rw [hu] at this
          have h8 := HSE.out _ hqV
          rw [hu] at h8
          exact this.trans (LeE.of_le (by have h9 := HDB.out; show uw ≤ vw; omega) h8)
    · obtain rfl : i = j := by omega
      obtain ⟨s, hs⟩ : ∃ s, i - A = s := ⟨_, rfl⟩
      have his : i = A + s := by omega
      have hiI : (0 : Int) ≤ i ∧ (i : Int) ≤ 1000 := by have := HA.out; omega
      have hsU : s ≤ U.length := by omega
      have hMe : M = A + U.length := HA.out.2.1.symm
      have hini : Hid (S2M w0 g n X U Y v A s (U.length - s) (.int .i64 M) wr) := ⟨U.length, D, by rw [hMe], hsU, Nat.le_refl _, by show D = _; rw [HD.out]; simp, rfl, h⟩
      rw [hs] at h1 h2
      have HI := Lib.hid (⟨his, hs, hMi, hjV⟩ : _ ∧ _ ∧ _ ∧ _)
      clear his hs hij hMi hjV hlt h hsU hMe
      go_wp2_with fail
      go_loopg [17] (U.length - s) (S2M w0 g n X U Y v A s)
      case atStart => exact hini.out
      case round =>
        clear hini
        obtain ⟨t, D1, rfl, hts, htU, hD1, hk3, h⟩ := hrel
        have hl1 := h.len
        have hBn := HA.out
        have hi4 := HI.out
        by_cases htl : s < t
        · obtain ⟨r, rfl⟩ : ∃ r, t = r + 1 := ⟨t - 1, by omega⟩
          have htV : r < U.length := by omega
          obtain ⟨p, hp⟩ : ∃ p, A + r = p := ⟨_, rfl⟩
          obtain ⟨p1, hp1⟩ : ∃ p1, A + (r + 1) = p1 := ⟨_, rfl⟩
          obtain ⟨y, hy⟩ : ∃ y, el U r = y := ⟨_, rfl⟩
          have hdr : U.drop r = y :: U.drop (r + 1) := by rw [List.drop_eq_getElem_cons htV, ← hy]; simp [el, htV]
          have htk : U.take (r + 1) = U.take r ++ [y] := by rw [List.take_succ_eq_append_getElem htV, ← hy]; simp [el, htV]
          have e0 : D1 = (X ++ U.take r) ++ y :: ([] ++ v :: (U.drop (r + 1) ++ Y)) := by rw [hD1.out, htk]; simp
          have l1 : (X ++ U.take r).length = p := by rw [List.length_append, List.length_take]; omega
          have ey : el D1 p = y := by rw [e0]; exact el_mid l1.symm
          have ex : el D1 p1 = v := by
            rw [e0, show (X ++ U.take r) ++ y :: ([] ++ v :: (U.drop (r + 1) ++ Y)) = ((X ++ U.take r) ++ [y]) ++ v :: (U.drop (r + 1) ++ Y) by simp]
            exact el_mid (by rw [List.length_append, l1, List.length_singleton]; omega)
          obtain ⟨xw, xA, xn, xc⟩ := v
          obtain ⟨yw, yA, yn, yc⟩ := y
          have H2 := Lib.hid (⟨by omega, by omega, ex, ey⟩ : p1 < n ∧ p < n ∧ el D1 p1 = (xw, xA, xn, xc) ∧ el D1 p = (yw, yA, yn, yc))
          obtain ⟨a0, a1, b0, b1, -⟩ := TwoS.of H2 h
          have za0 := h.z (i := p * 2) (by omega)
          have za1 := h.z (i := p * 2 + 1) (by omega)
          have zb0 := h.z (i := p1 * 2) (by omega)
          have zb1 := h.z (i := p1 * 2 + 1) (by omega)
          obtain ⟨z0, c1, z1, c2, z2, c3, z3⟩ := h.stores H2.out.1 H2.out.2.1 (.int .i64 yw) (.slice yA yn yc) (.int .i64 xw)
          have hne2 : ¬ p1 * 2 = p * 2 := by omega
          have hpI : (0 : Int) ≤ p ∧ (p : Int) < n ∧ (0 : Int) ≤ p1 ∧ (p1 : Int) < n ∧ (i : Int) < (p1 : Int) := by omega
          have hsp : (p1 : Int) - 1 = (p : Int) := by omega
          have w1 : IntKind.i64.wrap ((p1 : Int) - 1) = (p : Int) := by rw [hsp]; exact wr_in (by omega)
          have w3 : IntKind.i64.wrap (p : Int) = (p : Int) := wr_in (by omega)
          have HE0 := Lib.hid (⟨e0, l1, hp, hp1, htl, hdr⟩ : _ ∧ _ ∧ _ ∧ _ ∧ _ ∧ _)
          rw [hp1]
          clear e0 l1 ex ey hp hp1 htl htk hdr htV hy hl1 hBn hi4 hts
          go_wp2_with fail
          go_region
          have h6 := (h.swp H2.out.1 H2.out.2.1 (by have := HE0.out; omega)).drew
          rw [H2.out.2.2.1, H2.out.2.2.2] at h6
          clear za0 za1 zb0 zb1 a0 a1 b0 b1 h w1 w3 z0 c1 z1 c2 z2 c3 z3 hne2
          all_goals
            go_wp2_with fail
            go_roundg (r - s)
            case measure => have := hk3.out; have := HE0.out.2.2.2.2.1; omega
            case rel =>
              obtain ⟨e0, l1, hp, hp1, htl, hdr⟩ := HE0.out
              refine ⟨r, _, by rw [hp], by omega, by omega, ?_, rfl, h6⟩
              show _ = _
              rw [swp_comm, e0, swp_mid l1.symm (by rw [l1, ← hp1, ← hp]; rfl), hdr]
              simp
        · obtain rfl : s = t := by omega
          have hpE : ¬ (i : Int) < ((A + s : Nat) : Int) := by omega
          obtain ⟨p, hp⟩ : ∃ p, A + s = p := ⟨_, rfl⟩
          rw [hp] at hpE ⊢
          clear hp htl hts hl1 hBn hi4 htU
          go_wp2_with fail
          go_end0
          rw [hD1.out] at h
          have hsrt := ins_srt (x := v) (U1 := U.take s) (U2 := U.drop s) (by rw [List.take_append_drop]; exact HUS.out.1) h2.out h1.out
          refine ⟨U.take s ++ v :: U.drop s, rfl, ?_, hsrt, ?_⟩
          · have e : X ++ ((U.take s ++ v :: U.drop s) ++ Y) = X ++ (U.take s ++ v :: (U.drop s ++ Y)) := by simp
            rw [e]; exact h
          · refine List.perm_middle.trans ?_
            rw [List.take_append_drop]
            exact (List.perm_append_comm (l₁ := U) (l₂ := [v])).symm
end Go.Proofs.Ytckhkkjdibcclaa
