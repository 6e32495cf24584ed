/-
  The walks of gzip's parser.text and of the reference's num and text.
-/
import Derived.Test.YtgdmhicfeipbjaaHdA
import Derived.Test.YtgdmhicfeipbjaaIxb
import Derived.Handy
namespace Go.Proofs.Ytgdmhicfeipbjaa
open Go.RowKit
set_option linter.unusedVariables false

theorem take_bd {l : List Int} (h : ∀ x ∈ l, 0 ≤ x ∧ x < 256) (k : Nat) : ∀ x ∈ l.take k, 0 ≤ x ∧ x < 256 := fun x hx => h x (List.mem_of_mem_take hx)
theorem drop_bd {l : List Int} (h : ∀ x ∈ l, 0 ≤ x ∧ x < 256) (k : Nat) : ∀ x ∈ l.drop k, 0 ≤ x ∧ x < 256 := fun x hx => h x (List.mem_of_mem_drop hx)

theorem ptext_any (w : World) (B g n c a : Nat) (A : Option Addr) (l : List Int) (e : Int) (h : Psr w B g A n c l a e) (hA : e = 0 → ∃ ad, A = some ad) (hb : ∀ x ∈ l, 0 ≤ x ∧ x < 256) :
    Calls Try.prog 20 #[ps g] w (UnitPost w B g A n c l (txA l a e) (txF l a e) (.returned (.string (strOf (txL l a e))))) := by
  have c0 := h.cell.cell (i := 0) (by omega)
  have c1 := h.cell.cell (i := 1) (by omega)
  have c2 := h.cell.cell (i := 2) (by omega)
  have z1 := h.cell.frozen' (i := 1) (by omega)
  have z2 := h.cell.frozen' (i := 2) (by omega)
  unfold pf at c0 c1 c2
  have hgl := h.cell.lt
  have hle := h.le
  have hcap := h.cap
  have hsm := h.small
  have HN := Lib.hid h.rd.1
  unfold ps
  by_cases he0 : e = 0
  · subst he0
    obtain ⟨ad, rfl⟩ := hA rfl
    clear hA
    obtain ⟨r, hr⟩ : ∃ r, l.drop a = r := ⟨_, rfl⟩
    have hrl : r.length = n - a := by rw [← hr, List.length_drop, ← HN.out]
    have hrb : ∀ x ∈ r, 0 ≤ x ∧ x < 256 := by rw [← hr]; exact drop_bd hb a
    have hrd : ∀ W, RdI .u8 W B (some ad) n l → RdI .u8 W B (cutA (some ad) c a) (n - a) r := fun W hW => by rw [← hr]; exact RdI.cutA hW hle hcap
    obtain ⟨ad2, hcut⟩ : ∃ ad2, cutA (some ad) c a = some ad2 := by unfold cutA; split <;> exact ⟨_, rfl⟩
    obtain ⟨i0, hi, hz0, hz1, hz2⟩ := info_parts rbyte_info
    have hs1 := run_slice_from (P := Try.prog) 23 5 Try.underlying23 hi hz1 (some ad) n c hle
    rw [hcut] at hrd hs1
    obtain ⟨m, hm⟩ : ∃ m, n - a = m := ⟨_, rfl⟩
    obtain ⟨d, hd⟩ : ∃ d, c - a = d := ⟨_, rfl⟩
    rw [hm] at hrl hrd hs1
    rw [hd] at hs1
    have hmd : m ≤ d ∧ m ≤ 1000000 ∧ a + m ≤ n := by omega
    obtain ⟨k, hk⟩ : ∃ k, min m 4097 = k := ⟨_, rfl⟩
    have hkc : ((m : Int) ≤ 4097 ∧ k = m) ∨ ((4097 : Int) < m ∧ k = 4097) := by omega
    have hkd : k ≤ m ∧ k ≤ d := by omega
    clear hk
    have hpre := fun W (hW : RdI .u8 W B (some ad) n l) j (hj : j ≤ m) => RdI.pre (hrd W hW) (j := j) hj
    have hst := fun W (hW : RdI .u8 W B (some ad) n l) j (hj : j ≤ m) => run_to_string_at (P := Try.prog) 23 9 5 d Try.underlying23 Try.underlying5 Try.underlying9 (hpre W hW j hj)
    have hs2 := fun j (hj : j ≤ d) => run_slice_to (P := Try.prog) 23 5 Try.underlying23 hi hz1 (some ad2) m d hj
    have hIx := ixb_nz (l := r.take k) (take_bd hrb k)
    rw [nz_take, List.length_take, hrl] at hIx
    have hTX : Hid (txF l a 0 = (txR r).2.2 ∧ txA l a 0 = a + (txR r).2.1 ∧ txL l a 0 = (txR r).1) := by
      refine ⟨?_, ?_, ?_⟩
      · unfold txF; rw [if_pos rfl, hr]
      · unfold txA; rw [if_pos rfl, hr]
      · unfold txL; rw [if_pos rfl, hr]
    have hst1 := fun q => hst (w.drewN q) (h.rd.drewN q) k hkd.1
    have hsl1 := hs2 k hkd.2
    by_cases hz : nz r < k
    · obtain ⟨z, hze⟩ : ∃ z, nz r = z := ⟨_, rfl⟩
      have hR : txR r = (r.take z, z + 1, 0) := by unfold txR; rw [hze, if_pos (by omega)]
      rw [hze] at hIx hz
      rw [if_pos (by omega), Nat.min_eq_left (by omega)] at hIx
      rw [hR] at hTX
      obtain ⟨K, hK⟩ : ∃ K, a + (z + 1) = K := ⟨_, rfl⟩
      have hKn : K ≤ n := by omega
      have HPs := fun q => (h.drewN q).move (a' := K) hKn
      have hst2 := fun q => hst _ (HPs q).rd z (by omega)
      have hsl2 := hs2 z (by omega)
      have hzI : (0 : Int) ≤ z ∧ (z : Int) < 4097 ∧ (0 : Int) ≤ a ∧ (a : Int) ≤ 1000000 := by omega
      have hw1 : IntKind.i64.wrap ((a : Int) + ((z : Int) + 1)) = (K : Int) := by rw [IntWalk.i64_in _ (by omega)]; omega
      have HI := Lib.hid hIx
      have HK := Lib.hid hK
      clear hIx hK hze hR hr hrl hrb hm hd hi hz0 hz1 hz2 hs2 hst hpre
      rcases hkc with ⟨h4, rfl⟩ | ⟨h4, rfl⟩
      all_goals
        go_enter Try.func20, Try.ntmps20
        go_wp2_with fail
        go_quiet (fail)
        go_wp2_with fail
        refine (ixb_any _ _ _).mono ?_
        rintro e1 w1 ⟨rfl, rfl⟩
        rw [HI.out]
        go_wp2
        go_ret
        exact ⟨by rw [hTX.out.2.2]; rfl, by rw [hTX.out.1, hTX.out.2.1, HK.out]; exact HPs _, ((Chg.refl w (fun k => k = g)).drewN _).setCell (p := ⟨g, 1, none⟩) (.inl rfl) _⟩
    · rw [if_neg (by omega)] at hIx
      have HI := Lib.hid hIx
      by_cases h5 : (4096 : Int) < m
      · have hR : txR r = ([], 0, 2) := by unfold txR; rw [if_neg (by omega), if_pos (by omega)]
        rw [hR] at hTX
        clear hIx hR hr hrl hrb hm hd hi hz0 hz1 hz2 hs2 hst hpre hz
        rcases hkc with ⟨h4, rfl⟩ | ⟨h4, rfl⟩
        all_goals
          go_enter Try.func20, Try.ntmps20
          go_wp2_with fail
          go_quiet (fail)
          go_wp2_with fail
          refine (ixb_any _ _ _).mono ?_
          rintro e1 w1 ⟨rfl, rfl⟩
          rw [HI.out]
          go_wp2
          go_ret
          exact ⟨by rw [hTX.out.2.2]; rfl, by rw [hTX.out.1, hTX.out.2.1]; exact (h.drewN _).fault 2, ((Chg.refl w (fun k => k = g)).drewN _).setCell (p := ⟨g, 2, none⟩) (.inl rfl) _⟩
      · have hR : txR r = ([], 0, 5) := by unfold txR; rw [if_neg (by omega), if_neg (by omega)]
        rw [hR] at hTX
        clear hIx hR hr hrl hrb hm hd hi hz0 hz1 hz2 hs2 hst hpre hz
        rcases hkc with ⟨h4, rfl⟩ | ⟨h4, rfl⟩
        · go_enter Try.func20, Try.ntmps20
          go_wp2_with fail
          go_quiet (fail)
          go_wp2_with fail
          refine (ixb_any _ _ _).mono ?_
          rintro e1 w1 ⟨rfl, rfl⟩
          rw [HI.out]
          go_wp2
          go_ret
          exact ⟨by rw [hTX.out.2.2]; rfl, by rw [hTX.out.1, hTX.out.2.1]; exact (h.drewN _).fault 5, ((Chg.refl w (fun k => k = g)).drewN _).setCell (p := ⟨g, 2, none⟩) (.inl rfl) _⟩
        · exact absurd h4 (by omega)
  · have HP : Hid (txF l a e = e ∧ txA l a e = a ∧ txL l a e = []) := ⟨by unfold txF; rw [if_neg he0], by unfold txA; rw [if_neg he0], by unfold txL; rw [if_neg he0]⟩
    go_enter Try.func20, Try.ntmps20
    go_wp2
    go_ret
    exact ⟨by rw [HP.out.2.2]; rfl, by rw [HP.out.1, HP.out.2.1]; exact h, Chg.refl _ _⟩
theorem rnum_any (w : World) (B n c : Nat) (A : Option Addr) (l : List Int) (hl : RdI .u8 w B A n l) (hn : n ≤ 4) (hb : ∀ x ∈ l, 0 ≤ x ∧ x < 256) :
    Calls Try.prog 21 #[.slice A n c] w fun e w' => e = .returned (.int .i64 (leI l)) ∧ w' = w := by
  have HL := Lib.hid hl.1
  go_enter Try.func21, Try.ntmps21
  go_wp2
  go_loop [3, 4] (fun x i => ∃ (k : Nat) (v : Int), k ≤ n ∧ i = .int .i64 ((k : Int) - 1) ∧ x = .int .i64 v ∧ 0 ≤ v ∧ v < 4294967296 ∧ Hid (v = leI (l.drop k))) (fun _ i => ((intOf i) + 1).toNat)
  case atStart => exact ⟨n, 0, Nat.le_refl _, by go_num, rfl, by omega, by omega, by show _ = _; rw [List.drop_of_length_le (by rw [← HL.out]; exact Nat.le_refl _)]; rfl⟩
  case round =>
    obtain ⟨k, v, hk, rfl, rfl, hv0, hv1, HV⟩ := hrel
    by_cases hlt : 0 < k
    · obtain ⟨j, rfl⟩ : ∃ j, k = j + 1 := ⟨k - 1, by omega⟩
      obtain ⟨a1, rfl, _, hc⟩ := hl.at_ (i := j) (by omega)
      have hbd := ix_mem_bd hb j
      have HS : leI (l.drop j) = ix l j + 256 * leI (l.drop (j + 1)) := by
        have hjl : j < l.length := by rw [← HL.out]; omega
        rw [List.drop_eq_getElem_cons hjl]
        show l[j] + _ = _
        simp [ix, hjl]
      have HB := leI_bd (drop_bd hb j)
      have HB2 : (256 : Int) ^ (l.drop j).length ≤ 4294967296 := by
        have hjl : (l.drop j).length ≤ 4 := by rw [List.length_drop, ← HL.out]; omega
        obtain h | h | h | h | h : (l.drop j).length = 0 ∨ (l.drop j).length = 1 ∨ (l.drop j).length = 2 ∨ (l.drop j).length = 3 ∨ (l.drop j).length = 4 := by omega
        all_goals rw [h]; decide
      rw [HS, ← HV.out] at HB
      replace HB : 0 ≤ ix l j + 256 * v ∧ ix l j + 256 * v < 4294967296 := ⟨HB.1, Int.lt_of_lt_of_le HB.2 HB2⟩
      obtain ⟨b, hb'⟩ : ∃ b : Int, ix l j = b := ⟨_, rfl⟩
      rw [hb'] at hc hbd HS HB
      rw [← HV.out] at HS
      have HS := Lib.hid HS
      clear hb' HB2
      have ej : ((j + 1 : Nat) : Int) - 1 = j := by omega
      rw [ej]
      have hj0 : (0 : Int) ≤ j ∧ (j : Int) < n ∧ (n : Int) ≤ 4 := by omega
      go_wp2
      go_round
      case rel => exact ⟨j, _, by omega, by go_num, rfl, by omega, by omega, by show _ = _; rw [HS.out]; omega⟩
      case measure => simp [intOf]
    · obtain rfl : k = 0 := by omega
      go_wp2
      go_ret
      exact ⟨ret_int (by rw [HV.out]; rfl), rfl⟩

def rtxv (r : List Int) : Value := .tuple #[.string (strOf (txR r).1), .int .i64 ((txR r).2.1 : Int), .int .i64 (txR r).2.2]
theorem rtext_any (w : World) (B n c : Nat) (ad : Addr) (r : List Int) (hr : RdI .u8 w B (some ad) n r) (hn : n ≤ 1000000) (hc : n ≤ c) :
    Calls Try.prog 22 #[.slice (some ad) n c] w fun e w' => e = .returned (rtxv r) ∧ w' = w := by
  have HL := Lib.hid hr.1
  obtain ⟨i0, hi, hz0, hz1, hz2⟩ := info_parts rbyte_info
  have hs2 := fun j (hj : j ≤ c) => run_slice_to (P := Try.prog) 23 5 Try.underlying23 hi hz1 (some ad) n c hj
  have hst := fun j (hj : j ≤ n) => run_to_string_at (P := Try.prog) 23 9 5 c Try.underlying23 Try.underlying5 Try.underlying9 (RdI.pre hr (j := j) hj)
  have hnI : (n : Int) ≤ 1000000 := by omega
  clear hi hz0 hz1 hz2
  go_enter Try.func22, Try.ntmps22
  go_wp2
  go_loop [5] (fun i => ∃ (k : Nat), k ≤ n ∧ k ≤ 4096 ∧ i = .int .i64 (k : Int) ∧ Hid (∀ j, j < k → ix r j ≠ 0)) (fun i => (4097 - intOf i).toNat)
  case atStart => exact ⟨0, by omega, by omega, rfl, fun j hj => by omega⟩
  case round =>
    obtain ⟨k, hk, hk2, rfl, HZ⟩ := hrel
    have hkI : (0 : Int) ≤ k ∧ (k : Int) ≤ 4096 := by omega
    by_cases hlt : k < n
    · obtain ⟨a1, ha1, _, hc1⟩ := hr.at_ hlt
      cases ha1
      have hltI : (k : Int) < n := by omega
      by_cases h0 : ix r k = 0
      · have hz : nz r = k := by
          have h1 := nz_ge (l := r) (k := k) (by rw [← HL.out]; omega) HZ.out
          rcases Nat.lt_or_ge k (nz r) with h2 | h2
          · exact absurd h0 (nz_nz h2)
          · omega
        have HRX : Hid (txR r = (r.take k, k + 1, 0)) := by show _ = _; unfold txR; rw [hz, if_pos (by rw [← HL.out]; omega)]
        rw [h0] at hc1
        have hsl := hs2 k (by omega)
        have hstk := hst k (by omega)
        clear hz hs2 hst
        go_wp2
        go_returns
        exact ⟨by unfold rtxv; rw [HRX.out]; rfl, rfl⟩
      · obtain ⟨b, hb⟩ : ∃ b, ix r k = b := ⟨_, rfl⟩
        have HZ2 : Hid (∀ j, j < k + 1 → ix r j ≠ 0) := fun j hj => by
          rcases Nat.lt_or_ge j k with h1 | h1
          · exact HZ.out j h1
          · obtain rfl : j = k := by omega
            exact h0
        have hn0 : Hid (k = 4096 → txR r = ([], 0, 2)) := fun h4 => by
          have h1 := nz_ge (l := r) (k := k + 1) (by rw [← HL.out]; omega) HZ2.out
          unfold txR; rw [if_neg (by omega), if_pos (by rw [← HL.out]; omega)]
        rw [hb] at hc1 h0
        clear hb
        by_cases h4 : (4096 : Int) ≤ k
        · have HRX := Lib.hid (hn0.out (by omega))
          go_wp2
          go_returns
          exact ⟨by unfold rtxv; rw [HRX.out]; rfl, rfl⟩
        · go_wp2
          go_round
          case rel => exact ⟨k + 1, by omega, by omega, by go_num, HZ2⟩
          case measure => simp [intOf]; omega
    · have hz : nz r = n := by
        have h1 := nz_ge (l := r) (k := k) (by rw [← HL.out]; omega) HZ.out
        have h2 := nz_le r
        rw [← HL.out] at h2
        omega
      by_cases h4 : (4096 : Int) < n
      · exact absurd h4 (by omega)
      · have HRX : Hid (txR r = ([], 0, 5)) := by show _ = _; unfold txR; rw [hz, if_neg (by rw [← HL.out]; omega), if_neg (by rw [← HL.out]; omega)]
        have hge : (n : Int) ≤ k := by omega
        clear hz
        go_wp2
        go_returns
        exact ⟨by unfold rtxv; rw [HRX.out]; rfl, rfl⟩
end Go.Proofs.Ytgdmhicfeipbjaa
