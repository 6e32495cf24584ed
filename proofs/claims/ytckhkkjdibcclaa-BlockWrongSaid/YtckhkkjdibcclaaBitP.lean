/-
  Plain law: bits, the lowest first: numbers, bytes.
-/
import Derived.Test.YtckhkkjdibcclaaBase
namespace Go.Proofs.Ytckhkkjdibcclaa
set_option linter.unusedVariables false

def Bit (l : List Int) : Prop := ∀ x ∈ l, x = 0 ∨ x = 1
def numI : List Int → Int
  | [] => 0
  | b :: l => b + 2 * numI l
def ofN : Int → Nat → List Int
  | _, 0 => []
  | v, n + 1 => v % 2 :: ofN (v / 2) n
theorem ofN_length (v : Int) (n : Nat) : (ofN v n).length = n := by
  induction n generalizing v with
  | zero => rfl
  | succ n ih => simp [ofN, ih]
theorem Bit.nil_ : Bit [] := fun x h => by cases h
theorem Bit.app {a b : List Int} (h : Bit a) (h' : Bit b) : Bit (a ++ b) := fun x hx => by
  rcases List.mem_append.1 hx with h1 | h1
  · exact h x h1
  · exact h' x h1
theorem Bit.drop_ {a : List Int} (h : Bit a) (k : Nat) : Bit (a.drop k) := fun x hx => h x (List.mem_of_mem_drop hx)
theorem Bit.take_ {a : List Int} (h : Bit a) (k : Nat) : Bit (a.take k) := fun x hx => h x (List.mem_of_mem_take hx)
theorem Bit.ofN (v : Int) (n : Nat) : Bit (ofN v n) := by
  induction n generalizing v with
  | zero => exact Bit.nil_
  | succ n ih =>
    intro x hx
    rcases List.mem_cons.1 hx with rfl | h
    · omega
    · exact ih _ x h
theorem Bit.zeros (n : Nat) : Bit (List.replicate n 0) := fun x hx => .inl (List.eq_of_mem_replicate hx)
theorem numI_append (a b : List Int) : numI (a ++ b) = numI a + 2 ^ a.length * numI b := by
  induction a with
  | nil => simp [numI]
  | cons x a ih => simp only [List.cons_append, numI, ih, List.length_cons, Int.pow_succ]; rw [Int.mul_add, Int.mul_right_comm, Int.mul_comm 2]; omega
theorem numI_bd {l : List Int} (h : Bit l) : 0 ≤ numI l ∧ numI l < 2 ^ l.length := by
  induction l with
  | nil => simp [numI]
  | cons x l ih =>
    have h1 := ih fun y hy => h y (List.mem_cons_of_mem _ hy)
    have h2 := h x (List.mem_cons_self ..)
    simp only [numI, List.length_cons, Int.pow_succ]
    omega
theorem two_pos (n : Nat) : (0 : Int) < 2 ^ n := Int.pow_pos (by omega)
theorem numI_ofN (v : Int) (n : Nat) : numI (ofN v n) = v % 2 ^ n := by
  induction n generalizing v with
  | zero => simp [ofN, numI]
  | succ n ih =>
    have hp := two_pos n
    have h3 := Int.emod_nonneg (v / 2) (b := 2 ^ n) (by omega)
    have h4 := Int.emod_lt_of_pos (v / 2) hp
    have h5 := Int.emod_add_mul_ediv (v / 2) (2 ^ n)
    have key : v % 2 + 2 * (v / 2 % 2 ^ n) + 2 * 2 ^ n * (v / 2 / 2 ^ n) = v := by
      rw [Int.mul_assoc]
      generalize 2 ^ n * (v / 2 / 2 ^ n) = z at *
      omega
    simp only [ofN, numI, ih, Int.pow_succ]
    rw [Int.mul_comm (2 ^ n) 2]
    calc v % 2 + 2 * (v / 2 % 2 ^ n) = (v % 2 + 2 * (v / 2 % 2 ^ n) + 2 * 2 ^ n * (v / 2 / 2 ^ n)) % (2 * 2 ^ n) := by
          rw [Int.add_mul_emod_self_left, Int.emod_eq_of_lt (a := v % 2 + 2 * (v / 2 % 2 ^ n)) (b := 2 * 2 ^ n) (by omega) (by omega)]
      _ = v % (2 * 2 ^ n) := by rw [key]
theorem numI_take {l : List Int} (h : Bit l) (n : Nat) : numI (l.take n) = numI l % 2 ^ n := by
  by_cases hn : n ≤ l.length
  · have e := numI_append (l.take n) (l.drop n)
    rw [List.take_append_drop, List.length_take, Nat.min_eq_left hn] at e
    have hb := numI_bd (h.take_ n)
    rw [List.length_take, Nat.min_eq_left hn] at hb
    rw [e, Int.add_mul_emod_self_left, Int.emod_eq_of_lt hb.1 hb.2]
  · have hb := numI_bd h
    have : (2 : Int) ^ l.length ≤ 2 ^ n := by
      rw [show n = l.length + (n - l.length) by omega, Int.pow_add]
      have := two_pos (n - l.length)
      have h2 := two_pos l.length
      calc (2 : Int) ^ l.length = 2 ^ l.length * 1 := by omega
        _ ≤ 2 ^ l.length * 2 ^ (n - l.length) := Int.mul_le_mul_of_nonneg_left (by omega) (by omega)
    rw [List.take_of_length_le (by omega), Int.emod_eq_of_lt hb.1 (by omega)]
theorem numI_drop {l : List Int} (h : Bit l) (n : Nat) : numI (l.drop n) = numI l / 2 ^ n := by
  by_cases hn : n ≤ l.length
  · have e := numI_append (l.take n) (l.drop n)
    rw [List.take_append_drop, List.length_take, Nat.min_eq_left hn] at e
    have hb := numI_bd (h.take_ n)
    rw [List.length_take, Nat.min_eq_left hn] at hb
    have hp := two_pos n
    rw [e, Int.add_mul_ediv_left _ _ (by omega), Int.ediv_eq_zero_of_lt hb.1 hb.2]
    omega
  · have hb := numI_bd h
    have : (2 : Int) ^ l.length ≤ 2 ^ n := by
      rw [show n = l.length + (n - l.length) by omega, Int.pow_add]
      have := two_pos (n - l.length)
      have h2 := two_pos l.length
      calc (2 : Int) ^ l.length = 2 ^ l.length * 1 := by omega
        _ ≤ 2 ^ l.length * 2 ^ (n - l.length) := Int.mul_le_mul_of_nonneg_left (by omega) (by omega)
    rw [List.drop_eq_nil_of_le (by omega), Int.ediv_eq_zero_of_lt hb.1 (by omega)]
    rfl
theorem ofN_numI {l : List Int} (h : Bit l) : ofN (numI l) l.length = l := by
  induction l with
  | nil => rfl
  | cons x l ih =>
    have h1 := ih fun y hy => h y (List.mem_cons_of_mem _ hy)
    have h2 := h x (List.mem_cons_self ..)
    simp only [numI, List.length_cons, ofN]
    rw [show (x + 2 * numI l) % 2 = x by omega, show (x + 2 * numI l) / 2 = numI l by omega, h1]
theorem ofN_succ (v : Int) (n : Nat) : ofN v (n + 1) = ofN v n ++ [v / 2 ^ n % 2] := by
  induction n generalizing v with
  | zero => simp [ofN]
  | succ n ih =>
    rw [ofN, ih, ofN, List.cons_append]
    congr 4
    rw [Int.pow_succ, Int.mul_comm, Int.ediv_ediv_of_nonneg (by omega)]
theorem ofN_mod (v : Int) (n : Nat) : ofN (v % 2 ^ n) n = ofN v n := by
  have := ofN_numI (Bit.ofN v n)
  rwa [ofN_length, numI_ofN] at this

/-- the whole bytes of a row of bits; the bits behind them; the bits of bytes -/
def byt (l : List Int) : List Int := (List.range (l.length / 8)).map fun i => numI ((l.drop (8 * i)).take 8)
def rest (l : List Int) : List Int := l.drop (8 * (l.length / 8))
def bts : List Int → List Int
  | [] => []
  | b :: l => ofN b 8 ++ bts l
theorem byt_length (l : List Int) : (byt l).length = l.length / 8 := by simp [byt]
theorem rest_length (l : List Int) : (rest l).length = l.length % 8 := by simp [rest]; omega
theorem bts_length (l : List Int) : (bts l).length = 8 * l.length := by
  induction l with
  | nil => rfl
  | cons b l ih => simp [bts, ofN_length, ih]; omega
theorem Bit.rest {l : List Int} (h : Bit l) : Bit (rest l) := h.drop_ _
theorem Bit.bts (l : List Int) : Bit (bts l) := by
  induction l with
  | nil => exact Bit.nil_
  | cons b l ih => exact (Bit.ofN b 8).app ih
theorem byt_small {l : List Int} (h : l.length < 8) : byt l = [] := by unfold byt; rw [Nat.div_eq_of_lt h]; rfl
theorem rest_small {l : List Int} (h : l.length < 8) : rest l = l := by unfold rest; rw [Nat.div_eq_of_lt h]; simp
theorem byt_eight {a : List Int} (h : a.length = 8) (l : List Int) : byt (a ++ l) = numI a :: byt l := by
  unfold byt
  rw [List.length_append, h, show (8 + l.length) / 8 = l.length / 8 + 1 by omega, List.range_succ_eq_map]
  simp only [List.map_cons, List.map_map]
  congr 1
  · rw [Nat.mul_zero, List.drop_zero, List.take_append_of_le_length (by omega), List.take_of_length_le (by omega)]
  · apply List.map_congr_left
    intro i _
    simp only [Function.comp]
    rw [show 8 * (i + 1) = a.length + 8 * i by omega, List.drop_append, List.drop_eq_nil_of_le (by omega), List.nil_append, Nat.add_sub_cancel_left]
theorem rest_eight {a : List Int} (h : a.length = 8) (l : List Int) : rest (a ++ l) = rest l := by
  unfold rest
  rw [List.length_append, h, show 8 * ((8 + l.length) / 8) = a.length + 8 * (l.length / 8) by omega, List.drop_append, List.drop_eq_nil_of_le (by omega), List.nil_append, Nat.add_sub_cancel_left]
theorem split8 {l : List Int} (h : 8 ≤ l.length) : ∃ a b, l = a ++ b ∧ a.length = 8 := ⟨l.take 8, l.drop 8, (List.take_append_drop ..).symm, by simp; omega⟩
theorem byt_app (a x : List Int) : byt (a ++ x) = byt a ++ byt (rest a ++ x) := by
  induction hn : a.length using Nat.strongRecOn generalizing a with
  | _ n ih =>
    by_cases h : a.length < 8
    · rw [byt_small h, rest_small h]; rfl
    · obtain ⟨b, c, rfl, hb⟩ := split8 (l := a) (by omega)
      rw [List.append_assoc, byt_eight hb, byt_eight hb, rest_eight hb, ih c.length (by rw [← hn, List.length_append]; omega) c rfl]
      rfl
theorem rest_app (a x : List Int) : rest (a ++ x) = rest (rest a ++ x) := by
  induction hn : a.length using Nat.strongRecOn generalizing a with
  | _ n ih =>
    by_cases h : a.length < 8
    · rw [rest_small h]
    · obtain ⟨b, c, rfl, hb⟩ := split8 (l := a) (by omega)
      rw [List.append_assoc, rest_eight hb, rest_eight hb, ih c.length (by rw [← hn, List.length_append]; omega) c rfl]
theorem byt_bts {B : List Int} (h : ∀ b ∈ B, 0 ≤ b ∧ b < 256) : byt (bts B) = B := by
  induction B with
  | nil => rfl
  | cons b B ih =>
    have h1 := h b (List.mem_cons_self ..)
    rw [bts, byt_eight (ofN_length b 8), numI_ofN, ih fun y hy => h y (List.mem_cons_of_mem _ hy)]
    congr 1
    omega
theorem rest_bts (B : List Int) : rest (bts B) = [] := by
  unfold rest
  rw [bts_length, Nat.mul_div_cancel_left _ (by omega), ← bts_length, List.drop_length]
theorem bts_append (a b : List Int) : bts (a ++ b) = bts a ++ bts b := by
  induction a with
  | nil => rfl
  | cons x a ih => simp [bts, ih]
theorem bts_byt {l : List Int} (h : Bit l) : bts (byt l) ++ rest l = l := by
  induction hn : l.length using Nat.strongRecOn generalizing l with
  | _ n ih =>
    by_cases h8 : l.length < 8
    · rw [byt_small h8, rest_small h8]; rfl
    · obtain ⟨a, b, rfl, ha⟩ := split8 (l := l) (by omega)
      rw [byt_eight ha, rest_eight ha, bts, List.append_assoc, ih b.length (by rw [← hn, List.length_append]; omega) (fun x hx => h x (List.mem_append_right _ hx)) rfl]
      have := ofN_numI (l := a) fun x hx => h x (List.mem_append_left _ hx)
      rw [ha] at this
      rw [this]
theorem byt_bd {l : List Int} (h : Bit l) : ∀ b ∈ byt l, 0 ≤ b ∧ b < 256 := by
  intro b hb
  obtain ⟨i, hi, rfl⟩ := List.mem_map.1 hb
  have h1 := numI_bd ((h.drop_ (8 * i)).take_ 8)
  have h2 : ((l.drop (8 * i)).take 8).length = 8 := by have := List.mem_range.1 hi; simp; omega
  rw [h2] at h1
  exact h1
/-- whole bytes after whole bytes -/
theorem byt_even {a : List Int} (h : a.length % 8 = 0) (x : List Int) : byt (a ++ x) = byt a ++ byt x := by
  rw [byt_app]
  have : rest a = [] := List.eq_nil_of_length_eq_zero (by rw [rest_length, h])
  rw [this]; rfl
theorem rest_even {a : List Int} (h : a.length % 8 = 0) (x : List Int) : rest (a ++ x) = rest x := by
  rw [rest_app]
  have : rest a = [] := List.eq_nil_of_length_eq_zero (by rw [rest_length, h])
  rw [this]; rfl
/-- noughts up to a whole byte -/
def evn (l : List Int) : List Int := l ++ List.replicate ((8 - l.length % 8) % 8) 0
theorem evn_length (l : List Int) : (evn l).length = l.length + (8 - l.length % 8) % 8 := by simp [evn]
theorem evn_even (l : List Int) : (evn l).length % 8 = 0 := by rw [evn_length]; omega
theorem Bit.evn {l : List Int} (h : Bit l) : Bit (evn l) := h.app (Bit.zeros _)
theorem ofN_zero (n : Nat) : ofN 0 n = List.replicate n 0 := by
  induction n with
  | zero => rfl
  | succ n ih => simp [ofN, ih, List.replicate_succ]
/-- byte j of what stands behind -/
theorem byt_at {l : List Int} {j : Nat} (hj : j < l.length / 8) (h : Bit l) : byt (l.take (8 * (j + 1))) = byt (l.take (8 * j)) ++ [numI (l.drop (8 * j)) % 256] := by
  have e : l.take (8 * (j + 1)) = l.take (8 * j) ++ (l.drop (8 * j)).take 8 := by
    rw [show 8 * (j + 1) = 8 * j + 8 by omega, List.take_add]
  have h8 : ((l.drop (8 * j)).take 8).length = 8 := by simp; omega
  rw [e, byt_even (by simp; omega)]
  congr 1
  have := byt_eight h8 []
  rw [List.append_nil, byt_small (l := []) (by simp)] at this
  rw [this, numI_take (h.drop_ _)]
  rfl
theorem byt_take (l : List Int) : byt (l.take (8 * (l.length / 8))) = byt l := by
  conv => rhs; rw [← List.take_append_drop (8 * (l.length / 8)) l]
  rw [byt_even (by simp; omega), byt_small (l := l.drop _) (by simp; omega), List.append_nil]
theorem rest_drop (l : List Int) : rest l = l.drop (8 * (l.length / 8)) := rfl
end Go.Proofs.Ytckhkkjdibcclaa
