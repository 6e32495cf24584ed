/-
  The walk of the reference's MayLimit; the statements' own answers, layer 05.
-/
import Derived.Test.YtbllgifmidnkhaaLimO
namespace Go.Proofs.Ytbllgifmidnkhaa
open Go.RowKit
set_option linter.unusedVariables false
set_option maxRecDepth 100000 in
set_option maxHeartbeats 4000000 in
theorem rmay_any (w : World) (B : Nat) (C : Option Addr) (n d : Nat) (f : List Int) (hr : RdI .i64 w B C n f) (m : Int) (hnm : (n : Int) ≤ 4611686018427387904) :
    Calls Try.prog 9 #[.slice C n d, .int .i64 m] w fun e w' => e = .returned (.int .i64 (mayV f m)) ∧ w = w' := by
  have hnf := hr.1
  have hn0 : (0 : Int) ≤ n := by omega
  by_cases hbig : 288 < n ∨ m < 1 ∨ 15 < m
  · have hv : mayV f m = 1 := by unfold mayV; rw [if_pos (by omega)]
    rw [hv]
    have hc : (288 : Int) < n ∨ (¬ (288 : Int) < n ∧ m < 1) ∨ (¬ (288 : Int) < n ∧ ¬ m < 1 ∧ 15 < m) := by omega
    clear hbig hv hnf hr
    rcases hc with h1 | ⟨h1, h2⟩ | ⟨h1, h2, h3⟩
    all_goals
      go_enter Try.func9, Try.ntmps9
      go_wp2_with fail
      go_ret
      exact ⟨rfl, rfl⟩
  · have h1 : ¬ (288 : Int) < n := by omega
    have h2 : ¬ m < 1 := by omega
    have h3 : ¬ 15 < m := by omega
    have hv : mayV f m = if badB f = true then 1 else if 2 ^ m.toNat < (posI f f.length).length then 3 else 0 := by unfold mayV; rw [if_neg (by omega)]
    have HV := Lib.hid hv
    have HNF := Lib.hid hnf
    have hnI : (n : Int) ≤ 288 := by omega
    obtain ⟨mm, rfl⟩ := Int.eq_ofNat_of_zero_le (show 0 ≤ m by omega)
    have hmm : mm ≤ 15 := by omega
    obtain ⟨T, hT⟩ : ∃ T, 2 ^ mm = T := ⟨_, rfl⟩
    have HT := Lib.hid hT
    have HMM := Lib.hid hmm
    clear hbig hv hnf hT
    go_enter Try.func9, Try.ntmps9
    go_wp2_with fail
    go_loopg [5, 6] n (CkR w f n)
    case atStart => exact ⟨0, 0, rfl, rfl, rfl, Nat.zero_le _, rfl, fun j hj => by omega, rfl⟩
    case round =>
      obtain ⟨i, c, rfl, rfl, hw, hi, hc, hall, hk⟩ := hrel
      obtain rfl := hw.symm
      by_cases hlt : i < n
      · have hltI : (i : Int) < (n : Int) ∧ (0 : Int) ≤ i := by omega
        obtain ⟨v, hv⟩ : ∃ v, ix f i = v := ⟨_, rfl⟩
        obtain ⟨ad, rfl, hadb, hcv⟩ := hr.at_ (i := i) hlt
        rw [hv] at hcv
        have hcb : c ≤ 288 := by have := hc.out; have := pos_len f i; omega
        have hcI : (0 : Int) ≤ c ∧ (c : Int) ≤ 288 := by omega
        have HX := Lib.hid (⟨hv, hlt⟩ : _ ∧ _)
        clear hv hlt hcb
        by_cases hbad : v < 0 ∨ 1048576 < v
        · have hmv : mayV f (mm : Int) = 1 := by rw [HV.out, if_pos (bad_at (by rw [← HNF.out]; exact HX.out.2) (by rw [HX.out.1]; exact hbad))]
          have HMV := Lib.hid hmv
          have hb2 : v < 0 ∨ (¬ v < 0 ∧ 1048576 < v) := by omega
          clear hbad hmv
          rcases hb2 with g1 | ⟨g1, g2⟩
          all_goals
            go_wp2_with fail
            go_ret
            exact ⟨ret_int HMV.out.symm, rfl⟩
        · have g1 : ¬ v < 0 := by omega
          have g2 : ¬ 1048576 < v := by omega
          clear hbad
          by_cases hp : 0 < v
          · have hps : posI f (i + 1) = posI f i ++ [(i : Int)] := by rw [posI, if_pos (by rw [HX.out.1]; exact hp)]
            have HPS := Lib.hid hps
            clear hps
            go_wp2_with fail
            go_roundg (n - (i + 1))
            case measure => have := hk.out; have := HX.out.2; omega
            case rel => exact ⟨i + 1, c + 1, by go_num, by go_num, rfl, HX.out.2, by show _ = _; rw [HPS.out, List.length_append, ← hc.out]; rfl, fun j hj => by
              by_cases e : j = i
              · subst e; rw [HX.out.1]; omega
              · exact hall.out j (by omega), rfl⟩
          · have hps : posI f (i + 1) = posI f i := by rw [posI, if_neg (by rw [HX.out.1]; exact hp), List.append_nil]
            have HPS := Lib.hid hps
            clear hps
            go_wp2_with fail
            go_roundg (n - (i + 1))
            case measure => have := hk.out; have := HX.out.2; omega
            case rel => exact ⟨i + 1, c, rfl, by go_num, rfl, HX.out.2, by show _ = _; rw [HPS.out]; exact hc.out, fun j hj => by
              by_cases e : j = i
              · subst e; rw [HX.out.1]; omega
              · exact hall.out j (by omega), rfl⟩
      · obtain rfl : i = n := by omega
        have hltI : ¬ (i : Int) < (i : Int) := by omega
        have hmv : mayV f (mm : Int) = if T < c then 3 else 0 := by
          rw [HV.out, if_neg (by rw [bad_not (by rw [← HNF.out]; exact hall.out)]; decide), Int.toNat_natCast, HT.out, ← HNF.out, ← hc.out]
        have HMV := Lib.hid hmv
        have hcI : (0 : Int) ≤ c ∧ (c : Int) ≤ 288 := by have := hc.out; have := pos_len f i; omega
        clear hmv hlt
        go_wp2_with fail
        go_loopg [7, 8] mm (fun (g : Nat) (v7 v8 : Value) wx => ∃ (k r : Nat), v7 = .int .i64 r ∧ v8 = .int .i64 k ∧ wx = w ∧ k ≤ mm ∧ Hid (r = 2 ^ k) ∧ Hid (g = mm - k))
        case atStart => exact ⟨0, 1, rfl, rfl, rfl, Nat.zero_le _, rfl, rfl⟩
        case round =>
          obtain ⟨k, r, rfl, rfl, hw2, hkm, hr2, hg⟩ := hrel
          obtain rfl := hw2.symm
          by_cases hk2 : k < mm
          · have hkI : (k : Int) < (mm : Int) ∧ (0 : Int) ≤ k := by omega
            have hrb : r ≤ 32768 := by rw [hr2.out]; exact Nat.le_trans (Nat.pow_le_pow_right (by omega) (by have := HMM.out; omega : k ≤ 15)) (by decide)
            obtain ⟨r2, hr3⟩ : ∃ r2, r * 2 = r2 := ⟨_, rfl⟩
            have hrs : (r : Int) * 2 = (r2 : Int) := by omega
            have hrI : (0 : Int) ≤ r ∧ (r : Int) ≤ 32768 ∧ (0 : Int) ≤ r2 ∧ (r2 : Int) ≤ 65536 := by omega
            have HR3 := Lib.hid (⟨hr3, hk2⟩ : _ ∧ _)
            clear hr3 hk2 hrb
            go_wp2_with fail
            go_roundg (mm - (k + 1))
            case measure => have := hg.out; have := HR3.out.2; omega
            case rel => exact ⟨k + 1, r2, rfl, by go_num, rfl, HR3.out.2, by show _ = _; rw [Nat.pow_succ, ← hr2.out]; exact HR3.out.1.symm, rfl⟩
          · obtain rfl : k = mm := by omega
            have hkI : ¬ (k : Int) < (k : Int) := by omega
            obtain rfl : r = T := by rw [hr2.out]; exact HT.out
            have hrI : (0 : Int) ≤ r := by omega
            clear hk2
            by_cases hTc : r < c
            · have hTcI : (r : Int) < (c : Int) := by omega
              have HTC := Lib.hid hTc
              clear hTc
              go_wp2_with fail
              go_ret
              exact ⟨ret_int (by rw [HMV.out, if_pos HTC.out]), rfl⟩
            · have hTcI : ¬ (r : Int) < (c : Int) := by omega
              have HTC := Lib.hid hTc
              clear hTc
              go_wp2_with fail
              go_ret
              exact ⟨ret_int (by rw [HMV.out, if_neg HTC.out]), rfl⟩
theorem ans05_plain {L : List Int} (h : LenRes [1, 1, 2] 15 L) : L.length = 3 ∧ ix L 0 = 2 ∧ ix L 2 = 1 := by
  obtain ⟨h1, h2⟩ := h
  have hpos : posI [1, 1, 2] 3 = [0, 1, 2] := by decide
  refine ⟨h1, ?_⟩
  rcases h2 with ⟨h2, _⟩ | ⟨s, h2, _⟩ | ⟨S, hp, hs, h3, hL⟩
  · rw [show ([1, 1, 2] : List Int).length = 3 from rfl, hpos] at h2; simp at h2
  · rw [show ([1, 1, 2] : List Int).length = 3 from rfl, hpos] at h2; simp at h2
  · rw [show ([1, 1, 2] : List Int).length = 3 from rfl, hpos] at hp
    have hl0 := hL 0 (by decide)
    have hl2 := hL 2 (by decide)
    rw [hl0, hl2]
    have hmem : ∀ x ∈ S, x = 0 ∨ x = 1 ∨ x = 2 := fun x hx => by have := hp.mem_iff.1 hx; simpa using this
    have hlen : S.length = 3 := hp.length_eq
    match S, hlen with
    | [a, b, c], _ =>
      have ha := hmem a (by simp)
      have hb := hmem b (by simp)
      have hc := hmem c (by simp)
      have hn : [a, b, c].Nodup := (hp.nodup_iff).2 (by decide)
      rcases ha with rfl | rfl | rfl <;> rcases hb with rfl | rfl | rfl <;> rcases hc with rfl | rfl | rfl
      all_goals first
        | (exfalso; revert hn; decide)
        | (exfalso; revert hs; decide)
        | (constructor <;> decide +kernel)
end Go.Proofs.Ytbllgifmidnkhaa
