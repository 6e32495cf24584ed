/-
  The walks of coding.Name, coding.Of and of the statement's own of.
-/
import Derived.Test.YtlopmioamhendaaGreatProg
import Derived.Test.YtlopmioamhendaaGreatStr
namespace Go.Proofs.YtlopmioamhendaaGreat
open Go.RowKit
set_option linter.unusedVariables false

def lowB (n : Int) : Int := if 65 ≤ n ∧ n ≤ 90 then n + 32 else n
def lowL (s : ByteArray) : List Int := (bytesL s).map lowB
theorem ix_lowL (s : ByteArray) (i : Nat) : ix (lowL s) i = lowB (ix (bytesL s) i) := by
  unfold ix lowL
  simp only [List.getD_eq_getElem?_getD, List.getElem?_map]
  cases (bytesL s)[i]? <;> simp [lowB]
def partV (s : ByteArray) (k i : Nat) : Value := .int .u8 (if i < k then lowB (ix (bytesL s) i) else ix (bytesL s) i)
theorem partV_hit (s : ByteArray) (k : Nat) (h : 65 ≤ ix (bytesL s) k ∧ ix (bytesL s) k ≤ 90) (v : Int) (hv : v = ix (bytesL s) k + 32) (j : Nat) : upd (partV s k) k (.int .u8 v) j = partV s (k + 1) j := by
  by_cases hj : j = k
  · subst hj; rw [upd_same]; unfold partV lowB; rw [if_pos (by omega), if_pos h, hv]
  · rw [upd_other _ _ hj]; unfold partV; congr 1
    by_cases h' : j < k
    · rw [if_pos h', if_pos (by omega)]
    · rw [if_neg h', if_neg (by omega)]
theorem partV_miss (s : ByteArray) (k : Nat) (h : ¬ (65 ≤ ix (bytesL s) k ∧ ix (bytesL s) k ≤ 90)) (j : Nat) : partV s k j = partV s (k + 1) j := by
  unfold partV; congr 1
  by_cases hj : j = k
  · subst hj; rw [if_neg (by omega), if_pos (by omega)]; unfold lowB; rw [if_neg h]
  · by_cases h' : j < k
    · rw [if_pos h', if_pos (by omega)]
    · rw [if_neg h', if_neg (by omega)]

set_option maxHeartbeats 800000 in
set_option maxRecDepth 100000 in
theorem lower_any (s : ByteArray) (w : World) (hn : s.size ≤ 100000) :
    Calls Tryz.prog 23 #[.string s] w fun e w' => e = .returned (.string (strOf (lowL s))) ∧ Below w.heap.size w w' := by
  obtain ⟨cap, R, fr, hconv, har⟩ := run_to_bytes (P := Tryz.prog) w 9 22 5 s Tryz.underlying9 Tryz.underlying22 Tryz.underlying5
  have hb : Below w.heap.size w (w.drew.alloc (.cells R 5 fr)) := (Below.refl _ _).drew.alloc (Nat.le_refl _) _
  obtain ⟨w1, hw1⟩ : ∃ w1 : World, w1 = w.drew.alloc (.cells R 5 fr) := ⟨_, rfl⟩
  rw [← hw1] at har hb hconv
  clear hw1
  obtain ⟨n, hns⟩ : ∃ n, n = s.size := ⟨_, rfl⟩
  rw [← hns] at har hconv hn
  have HN := Lib.hid hns
  clear hns
  go_enter Tryz.func23, Tryz.ntmps23
  go_wp2
  go_loopw [10] (fun i wr => ∃ k : Nat, k ≤ n ∧ i = .int .i64 k ∧ Ar wr w.heap.size n (partV s k) ∧ Below w.heap.size w wr) (fun i _ => n - (intOf i).toNat)
  case atStart => exact ⟨0, Nat.zero_le _, rfl, har.congr fun i _ => by simp [partV], hb⟩
  case round =>
    obtain ⟨k, hk, rfl, har, hb⟩ := hrel
    by_cases hlt : k < n
    · have c1 := har.cell hlt
      have z1 := har.frozen' hlt
      have e1 : partV s k k = .int .u8 (ix (bytesL s) k) := by unfold partV; rw [if_neg (Nat.lt_irrefl _)]
      rw [e1] at c1
      clear e1
      obtain ⟨b, hbb⟩ : ∃ b : Int, b = ix (bytesL s) k := ⟨_, rfl⟩
      have bd := bytesL_bd s k
      rw [← hbb] at c1 bd
      have HB := Lib.hid hbb
      by_cases ht : 65 ≤ b ∧ b ≤ 90
      · have hit := partV_hit s k (by rw [← hbb]; exact ht) (b + 32) (by rw [hbb])
        have HIT := Lib.hid hit
        clear hit hbb
        go_wp2
        go_roundw
        case rel => exact ⟨k + 1, by omega, by go_num, (har.set_ hlt _).congr fun j _ => by rw [← HIT.out j] <;> (congr 2; omega), hb.setCell (Nat.le_refl _) _⟩
        case measure => simp [intOf]; omega
      · have miss := partV_miss s k (by rw [← hbb]; exact ht)
        have MISS := Lib.hid miss
        clear miss hbb
        go_wp2
        all_goals
          go_roundw
          case rel => exact ⟨k + 1, by omega, by go_num, har.congr fun j _ => MISS.out j, hb⟩
          case measure => simp [intOf]; omega
    · obtain rfl : n = k := by omega
      have hback := run_to_string (P := Tryz.prog) (w := wr) 22 9 5 cap (lowL s) Tryz.underlying22 Tryz.underlying5 Tryz.underlying9
        (har.congr fun j hj => by unfold partV; rw [if_pos hj, ix_lowL]) (by simp [lowL, bytesL_length, HN.out])
      obtain ⟨r, hr⟩ : ∃ r, r = strOf (lowL s) := ⟨_, rfl⟩
      rw [← hr] at hback
      have HR := Lib.hid hr
      clear hr
      go_wp2
      go_ret
      exact ⟨congrArg (fun r => Ending.returned (.string r)) HR.out, hb⟩

/-- which coding a name in small letters is -/
def ofR (r : ByteArray) : Int := if (r.toList == [105, 100, 101, 110, 116, 105, 116, 121]) = true then 0 else if (r.toList == [103, 122, 105, 112]) = true ∨ (r.toList == [120, 45, 103, 122, 105, 112]) = true then 1 else if (r.toList == [100, 101, 102, 108, 97, 116, 101]) = true then 2 else 3

set_option maxHeartbeats 800000 in
set_option maxRecDepth 100000 in
theorem of_any (s : ByteArray) (w : World) (hn : s.size ≤ 100000) :
    Calls Tryz.prog 18 #[.string s] w fun e w' => e = .returned (.int .i64 (ofR (strOf (lowL s)))) ∧ Below w.heap.size w w' := by
  go_enter Tryz.func18, Tryz.ntmps18
  go_wp2_with fail
  refine (lower_any s w hn).mono ?_
  rintro e w1 ⟨rfl, hb⟩
  obtain ⟨r, hr⟩ : ∃ r, r = strOf (lowL s) := ⟨_, rfl⟩
  rw [← hr]
  have HR := Lib.hid hr
  clear hr
  cases h1 : (r.toList == [105, 100, 101, 110, 116, 105, 116, 121])
  case true =>
    have hv : ofR r = 0 := by simp [ofR, h1]
    have HV := Lib.hid hv
    clear hv
    go_wp2
    go_ret
    exact ⟨ret_int (by rw [← HR.out, HV.out]), hb⟩
  cases h2 : (r.toList == [103, 122, 105, 112])
  case true =>
    have hv : ofR r = 1 := by simp [ofR, h1, h2]
    have HV := Lib.hid hv
    clear hv
    go_wp2
    go_ret
    exact ⟨ret_int (by rw [← HR.out, HV.out]), hb⟩
  cases h3 : (r.toList == [120, 45, 103, 122, 105, 112])
  case true =>
    have hv : ofR r = 1 := by simp [ofR, h1, h2, h3]
    have HV := Lib.hid hv
    clear hv
    go_wp2
    go_ret
    exact ⟨ret_int (by rw [← HR.out, HV.out]), hb⟩
  cases h4 : (r.toList == [100, 101, 102, 108, 97, 116, 101])
  case true =>
    have hv : ofR r = 2 := by simp [ofR, h1, h2, h3, h4]
    have HV := Lib.hid hv
    clear hv
    go_wp2
    go_ret
    exact ⟨ret_int (by rw [← HR.out, HV.out]), hb⟩
  have hv : ofR r = 3 := by simp [ofR, h1, h2, h3, h4]
  have HV := Lib.hid hv
  clear hv
  go_wp2
  go_ret
  exact ⟨ret_int (by rw [← HR.out, HV.out]), hb⟩

theorem name_any (k : Int) (w : World) : Calls Tryz.prog 17 #[.int .i64 k] w fun e w' => e = .returned (.string (if k = 0 then ⟨#[105, 100, 101, 110, 116, 105, 116, 121]⟩ else if k = 1 then ⟨#[103, 122, 105, 112]⟩ else if k = 2 then ⟨#[100, 101, 102, 108, 97, 116, 101]⟩ else ⟨#[]⟩)) ∧ w = w' := by
  by_cases h0 : k = 0
  · subst h0
    go_enter Tryz.func17, Tryz.ntmps17
    go_wp2
    go_ret
    exact ⟨rfl, rfl⟩
  by_cases h1 : k = 1
  · subst h1
    go_enter Tryz.func17, Tryz.ntmps17
    go_wp2
    go_ret
    exact ⟨rfl, rfl⟩
  by_cases h2 : k = 2
  · subst h2
    go_enter Tryz.func17, Tryz.ntmps17
    go_wp2
    go_ret
    exact ⟨rfl, rfl⟩
  rw [if_neg h0, if_neg h1, if_neg h2]
  go_enter Tryz.func17, Tryz.ntmps17
  go_wp2
  go_ret
  exact ⟨rfl, rfl⟩
end Go.Proofs.YtlopmioamhendaaGreat
