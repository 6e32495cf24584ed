/-
  The walk of the law's 'sound', and what the limit's lengths are for it.
-/
import Derived.Test.YtbllgifmidnkhaaProg
import Derived.Test.YtbllgifmidnkhaaLimT
import Derived.Test.YtbllgifmidnkhaaRCk
namespace Go.Proofs.Ytbllgifmidnkhaa
open Go.RowKit
set_option linter.unusedVariables false
theorem kraft_eq (l f : List Int) (m : Nat) (hm : m ≤ 15) : ∀ k : Nat, (∀ i, i < k → if 0 < ix f i then 1 ≤ ix l i ∧ ix l i ≤ m else ix l i = 0) → ((posI f k).map fun s => 2 ^ (m - (ix l s.toNat).toNat)).sum * 2 ^ (15 - m) = sumTo l k
  | 0, _ => by simp [posI, sumTo]
  | k + 1, h => by
    have ih := kraft_eq l f m hm k fun i hi => h i (by omega)
    rw [sumTo, posI, List.map_append, List.sum_append, Nat.add_mul, ih]
    congr 1
    have hk := h k (by omega)
    by_cases hp : 0 < ix f k
    · rw [if_pos hp] at hk
      obtain ⟨h1, h2⟩ := hk
      rw [if_pos hp]
      show (List.map _ [(k : Int)]).sum * _ = _
      rw [List.map_cons, List.map_nil, List.sum_cons, List.sum_nil, Int.toNat_natCast, Nat.add_zero]
      obtain ⟨v, hv⟩ := Int.eq_ofNat_of_zero_le (show 0 ≤ ix l k by omega)
      have hv : ix l k = (v : Int) := hv
      rw [hv] at h1 h2 ⊢
      rw [share_yes (by omega) (by omega), Int.toNat_natCast, p15, ← Nat.pow_add, show m - v + (15 - m) = 15 - v by omega]
    · rw [if_neg hp] at hk
      rw [if_neg hp, hk, share_no (by omega)]
      simp
/-- what 'sound' asks -/
structure SndF (l f : List Int) (n : Nat) (m : Int) : Prop where
  len : l.length = n
  each : ∀ i, i < n → (0 < ix l i ↔ 0 < ix f i) ∧ 0 ≤ ix l i ∧ ix l i ≤ m
  few : (posI f n).length < 2 → (sumTo l n : Int) = 16384 * ((posI f n).length : Int)
  many : 2 ≤ (posI f n).length → sumTo l n = 32768
theorem sum_zero {l : List Int} : ∀ k : Nat, (∀ i, i < k → ix l i = 0) → sumTo l k = 0
  | 0, _ => rfl
  | k + 1, h => by rw [sumTo, sum_zero k fun i hi => h i (by omega), h k (by omega), share_no (by omega)]
theorem LenRes.snd {f L : List Int} {m : Nat} (hR : LenRes f m L) (hmv : mayV f (m : Int) = 0) : SndF L f f.length m := by
  obtain ⟨m1, m2, m3, m4, m5⟩ := may_ok hmv
  by_cases h2 : 2 ≤ (posI f f.length).length
  · obtain ⟨h1, hk, -, -, -⟩ := hR.three hmv h2
    have hzero : ∀ i, i < f.length → ¬ 0 < ix f i → ix L i = 0 := fun i hi h0 => by
      obtain ⟨-, hR⟩ := hR
      rcases hR with ⟨h, h'⟩ | ⟨s, h, h'⟩ | ⟨S, hp, hs, hS2, hL⟩
      · exact h' i hi
      · rw [h' i hi, if_neg fun e => ?_]
        have : (i : Int) ∈ posI f f.length := by rw [h, e]; simp
        obtain ⟨j, _, e2, h3⟩ := (pos_gt _ _).1 this
        have : i = j := by omega
        subst this; exact h0 h3
      · rw [hL i hi]
        have hni : (i : Int) ∉ S := fun hm => by
          obtain ⟨j, _, e2, h3⟩ := (pos_gt _ _).1 (hp.mem_iff.1 hm)
          have : i = j := by omega
          subst this; exact h0 h3
        have hmem : ∀ s ∈ S, ∃ i : Nat, i < f.length ∧ s = (i : Int) ∧ 0 < ix f i := fun s hs => (pos_gt _ s).1 (hp.mem_iff.1 hs)
        have hlaw := limit_law (f := fqI f) (S := S) (m := m) (hp.nodup_iff.2 (pos_nodup f f.length)) hs (fun s hs => by
          obtain ⟨i, hi, rfl, _⟩ := hmem s hs
          rw [fqI_nat]; exact (m4 i hi).1) hS2 (by omega) (by rw [hp.length_eq]; rw [Int.toNat_natCast] at m5; exact m5)
        rw [hlaw.out _ hni]; rfl
    have hall : ∀ i, i < f.length → 0 < ix f i → 1 ≤ ix L i ∧ ix L i ≤ m := fun i hi h0 => by
      have := h1 (i : Int) ((pos_gt _ _).2 ⟨i, hi, rfl, h0⟩)
      rw [Int.toNat_natCast] at this
      exact this
    refine ⟨hR.1, fun i hi => ?_, fun h => by omega, fun _ => ?_⟩
    · by_cases h0 : 0 < ix f i
      · have := hall i hi h0; omega
      · have := hzero i hi h0; omega
    · have he := kraft_eq L f m (by omega) f.length fun i hi => by
        by_cases h0 : 0 < ix f i
        · rw [if_pos h0]; exact hall i hi h0
        · rw [if_neg h0]; exact hzero i hi h0
      unfold krP at hk
      rw [← he, hk, ← Nat.pow_add, show m + (15 - m) = 15 by omega]
  · obtain ⟨hlen, hR⟩ := hR
    rcases hR with ⟨h, h'⟩ | ⟨s, h, h'⟩ | ⟨S, hp, hs, hS2, hL⟩
    · refine ⟨hlen, fun i hi => ?_, fun _ => ?_, fun h3 => absurd h3 h2⟩
      · have hn : ¬ 0 < ix f i := fun h0 => by
          have := (pos_gt f.length (i : Int)).2 ⟨i, hi, rfl, h0⟩
          rw [h] at this; simp at this
        have := h' i hi; omega
      · rw [sum_zero _ h', h]; rfl
    · obtain ⟨j, hj, rfl, hj0⟩ := (pos_gt f.length s).1 (by rw [h]; simp)
      have hiff : ∀ i, i < f.length → (0 < ix f i ↔ i = j) := fun i hi => by
        constructor
        · intro h0
          have := (pos_gt f.length (i : Int)).2 ⟨i, hi, rfl, h0⟩
          rw [h] at this
          have := List.mem_singleton.1 this
          omega
        · rintro rfl; exact hj0
      have hv : ∀ i, i < f.length → ix L i = if i = j then 1 else 0 := fun i hi => by
        rw [h' i hi]
        by_cases e : i = j
        · rw [if_pos e, if_pos (by omega)]
        · rw [if_neg e, if_neg (by omega)]
      have hsum : ∀ k, k ≤ f.length → sumTo L k = if j < k then 16384 else 0 := fun k => by
        induction k with
        | zero => intro _; rfl
        | succ k ih =>
          intro hk
          rw [sumTo, ih (by omega), hv k (by omega)]
          by_cases e : k = j
          · subst e
            rw [if_neg (by omega), if_pos rfl, if_pos (by omega)]
            have := share_yes (v := 1) (by omega) (by omega)
            have e1 : share 1 = p15 1 := this
            rw [e1]; rfl
          · rw [if_neg e, share_no (by omega)]
            by_cases e2 : j < k
            · rw [if_pos e2, if_pos (by omega)]
            · rw [if_neg e2, if_neg (by omega)]
      refine ⟨hlen, fun i hi => ?_, fun _ => ?_, fun h3 => absurd h3 h2⟩
      · have h5 := hv i hi
        have h6 := hiff i hi
        by_cases e : i = j
        · rw [if_pos e] at h5; have := h6.2 e; omega
        · rw [if_neg e] at h5
          have : ¬ 0 < ix f i := fun h => e (h6.1 h)
          omega
      · rw [hsum _ (Nat.le_refl _), if_pos hj, h]; rfl
    · rw [hp.length_eq] at hS2; exact absurd hS2 h2
set_option maxRecDepth 100000 in
set_option maxHeartbeats 4000000 in
theorem sound_any (A C : Option Addr) (n a d B : Nat) (l f : List Int) (m : Int) (w : World) (hl : RdI .i64 w B A n l) (hf : RdI .i64 w B C n f) (hn : n ≤ 300) (hs : SndF l f n m) :
    Calls Try.prog 10 #[.slice A n a, .slice C n d, .int .i64 m] w fun e w' => e = .returned (.bool true) ∧ ∃ q, w' = w.drewN q := by
  have HS := Lib.hid hs
  have hnI : (n : Int) ≤ 300 ∧ (0 : Int) ≤ n := by omega
  clear hs
  go_enter Try.func10, Try.ntmps10
  go_wp2_with fail
  go_loopg [7, 8] n (fun (gk : Nat) (v7 v8 : Value) wx => ∃ i c : Nat, v7 = .int .i64 c ∧ v8 = .int .i64 i ∧ i ≤ n ∧ c ≤ i ∧ Hid (c = (posI f i).length) ∧ (∃ q, wx = w.drewN q) ∧ Hid (gk = n - i))
  case atStart => exact ⟨0, 0, rfl, rfl, Nat.zero_le _, Nat.le_refl _, rfl, ⟨0, rfl⟩, rfl⟩
  case round =>
    obtain ⟨i, c, rfl, rfl, hin, hci, hc, ⟨q, hwq⟩, hg⟩ := hrel
    have hcI : (0 : Int) ≤ c ∧ (c : Int) ≤ 300 := by omega
    by_cases hlt : i < n
    · have hltI : (i : Int) < (n : Int) ∧ (0 : Int) ≤ i ∧ i < n := by omega
      obtain ⟨x, hx⟩ : ∃ x, ix l i = x := ⟨_, rfl⟩
      obtain ⟨y, hy⟩ : ∃ y, ix f i = y := ⟨_, rfl⟩
      have hd := hl.drewN q
      have hd2 := hf.drewN q
      rw [← hwq] at hd hd2
      obtain ⟨ad, e1, hd1, hcx⟩ := hd.at_ hlt
      obtain ⟨ad2, e2, hd3, hcy⟩ := hd2.at_ hlt
      have he := HS.out.each i hlt
      rw [hx] at hcx he
      rw [hy] at hcy he
      have HY := Lib.hid hy
      have HWQ := Lib.hid hwq
      have hstep : Hid (∀ q0, ∃ q, wr.drewN q0 = w.drewN q) := fun q0 => ⟨q + q0, by rw [HWQ.out]; exact World.drewN_drewN _ _ _⟩
      clear hd hd2 hx hy hwq
      subst e1 e2
      by_cases hp : 0 < y
      · have hx1 : 0 < x := he.1.2 hp
        have hx2 : decide (x < 0) = false := decide_eq_false (by omega)
        have hx3 : decide (m < x) = false := decide_eq_false (by omega)
        have hps : posI f (i + 1) = posI f i ++ [(i : Int)] := by rw [posI, if_pos (by rw [HY.out]; exact hp)]
        have HPS := Lib.hid hps
        clear hps he
        go_wp2_with fail
        go_quiet (fail)
        go_wp2_with fail
        go_roundg (n - (i + 1))
        case measure => have := hg.out; omega
        case rel => exact ⟨i + 1, c + 1, by go_num, by go_num, hltI.2.2, by omega, by show _ = _; rw [HPS.out, List.length_append, ← hc.out]; rfl, hstep.out _, rfl⟩
      · have hx0 : x = 0 := by omega
        have hp' : decide (0 < y) = false := decide_eq_false hp
        subst hx0
        have hx3 : decide (m < 0) = false := decide_eq_false (by omega)
        have hps : posI f (i + 1) = posI f i := by rw [posI, if_neg (by rw [HY.out]; exact hp), List.append_nil]
        have HPS := Lib.hid hps
        clear hps he
        go_wp2_with fail
        go_quiet (fail)
        go_wp2_with fail
        go_roundg (n - (i + 1))
        case measure => have := hg.out; omega
        case rel => exact ⟨i + 1, c, rfl, by go_num, hltI.2.2, by omega, by show _ = _; rw [HPS.out]; exact hc.out, hstep.out _, rfl⟩
    · obtain rfl : i = n := by omega
      have hltI : ¬ (i : Int) < (i : Int) := by omega
      have hd := hl.drewN q
      rw [← hwq] at hd
      have HWQ := Lib.hid hwq
      have hfew := HS.out.few
      have hmany := HS.out.many
      rw [← hc.out] at hfew hmany
      obtain ⟨sm, hsm⟩ : ∃ sm, sumTo l i = sm := ⟨_, rfl⟩
      have HRS := Lib.hid (rsum_any A i a B l wr hd (by omega))
      rw [hsm] at hfew hmany HRS
      clear hwq hd hsm hl hf hlt
      by_cases hc2 : c < 2
      · have hc2I : (c : Int) < 2 := by omega
        have hval := hfew hc2
        have hcs : (16384 : Int) * (c : Int) = (sm : Int) := hval.symm
        clear hfew hmany hval
        go_wp2_with fail
        refine HRS.out.mono ?_
        rintro e w1 ⟨rfl, rfl⟩
        go_wp2_with fail
        go_ret
        exact ⟨rfl, _, HWQ.out⟩
      · have hc2I : ¬ (c : Int) < 2 := by omega
        have hval := hmany (by omega)
        clear hfew hmany
        subst hval
        go_wp2_with fail
        refine HRS.out.mono ?_
        rintro e w1 ⟨rfl, rfl⟩
        go_wp2_with fail
        go_ret
        exact ⟨rfl, _, HWQ.out⟩
end Go.Proofs.Ytbllgifmidnkhaa
