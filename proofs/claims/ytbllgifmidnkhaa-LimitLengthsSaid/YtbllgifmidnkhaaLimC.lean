/-
  The walks of check and of the reference's MayLimit.
-/
import Derived.Test.YtbllgifmidnkhaaLimL
namespace Go.Proofs.Ytbllgifmidnkhaa
open Go.RowKit
set_option linter.unusedVariables false
def badB (f : List Int) : Bool := f.any fun v => decide (v < 0) || decide (1048576 < v)
/-- may frequencies be? -/
def mayV (f : List Int) (m : Int) : Int :=
  if 288 < f.length ∨ m < 1 ∨ 15 < m then 1 else if badB f = true then 1 else if 2 ^ m.toNat < (posI f f.length).length then 3 else 0
theorem bad_at {f : List Int} {i : Nat} (hi : i < f.length) (h : ix f i < 0 ∨ 1048576 < ix f i) : badB f = true := by
  unfold badB
  rw [List.any_eq_true]
  exact ⟨ix f i, ix_mem hi, by simpa using h⟩
theorem bad_not {f : List Int} (h : ∀ j, j < f.length → 0 ≤ ix f j ∧ ix f j ≤ 1048576) : badB f = false := by
  unfold badB
  rw [List.any_eq_false]
  intro v hv
  obtain ⟨i, hi, e⟩ := List.getElem_of_mem hv
  have := h i hi
  have e2 : ix f i = v := by simp [ix, hi, e]
  rw [e2] at this
  simp; omega
theorem pos_len (f : List Int) (k : Nat) : (posI f k).length ≤ k := by
  induction k with
  | zero => exact Nat.le_refl _
  | succ k ih => rw [posI, List.length_append]; split <;> simp <;> omega
def CkR (w : World) (f : List Int) (n : Nat) (k : Nat) (v5 v21 : Value) (wr : World) : Prop :=
  ∃ i c : Nat, v5 = .int .i64 c ∧ v21 = .int .i64 i ∧ wr = w ∧ i ≤ n ∧ Hid (c = (posI f i).length) ∧ Hid (∀ j, j < i → 0 ≤ ix f j ∧ ix f j ≤ 1048576) ∧ Hid (k = n - i)
set_option maxRecDepth 100000 in
set_option maxHeartbeats 4000000 in
theorem check_any (w : World) (B : Nat) (C : Option Addr) (n d : Nat) (f : List Int) (hr : RdI .i64 w B C n f) (m : Int) (hnm : (n : Int) ≤ 4611686018427387904) :
    Calls Try.prog 15 #[.slice C n d, .int .i64 m] w fun e w' => e = .returned (.int .i64 (mayV f m)) ∧ w = w' := by
  have hnf := hr.1
  have hn0 : (0 : Int) ≤ n := by omega
  by_cases hbig : 288 < n ∨ m < 1 ∨ 15 < m
  · have hv : mayV f m = 1 := by unfold mayV; rw [if_pos (by omega)]
    rw [hv]
    have hc : (288 : Int) < n ∨ (¬ (288 : Int) < n ∧ m < 1) ∨ (¬ (288 : Int) < n ∧ ¬ m < 1 ∧ 15 < m) := by omega
    clear hbig hv hnf hr
    rcases hc with h1 | ⟨h1, h2⟩ | ⟨h1, h2, h3⟩
    all_goals
      go_enter Try.func15, Try.ntmps15
      go_wp2_with fail
      go_ret
      exact ⟨rfl, rfl⟩
  · have h1 : ¬ (288 : Int) < n := by omega
    have h2 : ¬ m < 1 := by omega
    have h3 : ¬ 15 < m := by omega
    have hv : mayV f m = if badB f = true then 1 else if 2 ^ m.toNat < (posI f f.length).length then 3 else 0 := by unfold mayV; rw [if_neg (by omega)]
    have HV := Lib.hid hv
    have HNF := Lib.hid hnf
    have hnI : (n : Int) ≤ 288 := by omega
    obtain ⟨mm, rfl⟩ := Int.eq_ofNat_of_zero_le (show 0 ≤ m by omega)
    have hmm : mm ≤ 15 := by omega
    obtain ⟨T, hT⟩ : ∃ T, 2 ^ mm = T := ⟨_, rfl⟩
    have hTb : 1 ≤ T ∧ T ≤ 32768 := by
      rw [← hT]
      exact ⟨Nat.two_pow_pos _, Nat.le_trans (Nat.pow_le_pow_right (by omega) hmm) (by decide)⟩
    have hTI : (2 : Int) ^ mm = (T : Int) := by rw [← hT]; simp
    have hTw : IntKind.i64.wrap (T : Int) = (T : Int) := IntWalk.i64_in _ (by omega)
    have HT := Lib.hid hT
    clear hbig hv hnf hT
    go_enter Try.func15, Try.ntmps15
    go_wp2_with fail
    go_loopg [5, 21] n (CkR w f n)
    case atStart => exact ⟨0, 0, rfl, rfl, rfl, Nat.zero_le _, rfl, fun j hj => by omega, rfl⟩
    case round =>
      obtain ⟨i, c, rfl, rfl, hw, hi, hc, hall, hk⟩ := hrel
      obtain rfl := hw.symm
      by_cases hlt : i < n
      · have hltI : (i : Int) < (n : Int) ∧ (0 : Int) ≤ i := by omega
        obtain ⟨v, hv⟩ : ∃ v, ix f i = v := ⟨_, rfl⟩
        obtain ⟨ad, rfl, hadb, hcv⟩ := hr.at_ (i := i) hlt
        rw [hv] at hcv
        have hcb : c ≤ 288 := by have := hc.out; have := pos_len f i; omega
        have hcI : (0 : Int) ≤ c ∧ (c : Int) ≤ 288 := by omega
        have HX := Lib.hid (⟨hv, hlt⟩ : _ ∧ _)
        clear hv hlt hcb
        by_cases hbad : v < 0 ∨ 1048576 < v
        · have hmv : mayV f (mm : Int) = 1 := by rw [HV.out, if_pos (bad_at (by rw [← HNF.out]; exact HX.out.2) (by rw [HX.out.1]; exact hbad))]
          have HMV := Lib.hid hmv
          have hb2 : v < 0 ∨ (¬ v < 0 ∧ 1048576 < v) := by omega
          clear hbad hmv
          rcases hb2 with g1 | ⟨g1, g2⟩
          all_goals
            go_wp2_with fail
            go_ret
            exact ⟨ret_int HMV.out.symm, rfl⟩
        · have g1 : ¬ v < 0 := by omega
          have g2 : ¬ 1048576 < v := by omega
          clear hbad
          by_cases hp : 0 < v
          · have hps : posI f (i + 1) = posI f i ++ [(i : Int)] := by rw [posI, if_pos (by rw [HX.out.1]; exact hp)]
            have HPS := Lib.hid hps
            clear hps
            go_wp2_with fail
            go_roundg (n - (i + 1))
            case measure => have := hk.out; have := HX.out.2; omega
            case rel => exact ⟨i + 1, c + 1, by go_num, by go_num, rfl, HX.out.2, by show _ = _; rw [HPS.out, List.length_append, ← hc.out]; rfl, fun j hj => by
              by_cases e : j = i
              · subst e; rw [HX.out.1]; omega
              · exact hall.out j (by omega), rfl⟩
          · have hps : posI f (i + 1) = posI f i := by rw [posI, if_neg (by rw [HX.out.1]; exact hp), List.append_nil]
            have HPS := Lib.hid hps
            clear hps
            go_wp2_with fail
            go_roundg (n - (i + 1))
            case measure => have := hk.out; have := HX.out.2; omega
            case rel => exact ⟨i + 1, c, rfl, by go_num, rfl, HX.out.2, by show _ = _; rw [HPS.out]; exact hc.out, fun j hj => by
              by_cases e : j = i
              · subst e; rw [HX.out.1]; omega
              · exact hall.out j (by omega), rfl⟩
      · obtain rfl : i = n := by omega
        have hltI : ¬ (i : Int) < (i : Int) := by omega
        have hmv : mayV f (mm : Int) = if T < c then 3 else 0 := by
          rw [HV.out, if_neg (by rw [bad_not (by rw [← HNF.out]; exact hall.out)]; decide), Int.toNat_natCast, HT.out, ← HNF.out, ← hc.out]
        have HMV := Lib.hid hmv
        have hcI : (0 : Int) ≤ c ∧ (c : Int) ≤ 288 := by have := hc.out; have := pos_len f i; omega
        clear hmv hlt
        by_cases hTc : T < c
        · have hTcI : (T : Int) < (c : Int) := by omega
          have HTC := Lib.hid hTc
          clear hTc
          go_wp2_with fail
          go_ret
          exact ⟨ret_int (by rw [HMV.out, if_pos HTC.out]), rfl⟩
        · have hTcI : ¬ (T : Int) < (c : Int) := by omega
          have HTC := Lib.hid hTc
          clear hTc
          go_wp2_with fail
          go_ret
          exact ⟨ret_int (by rw [HMV.out, if_neg HTC.out]), rfl⟩
end Go.Proofs.Ytbllgifmidnkhaa
