/-
  The walk of the statement BitsTurned.
-/
import Derived.Test.YtefignampkdclaaProg
import Derived.Test.YtefignampkdclaaRev
import Derived.Test.YtefignampkdclaaRdrB
import Derived.Test.YtefignampkdclaaRefB
namespace Go.Proofs.Ytefignampkdclaa
open Go.RowKit
set_option linter.unusedVariables false

theorem revN_ofN (V : Int) (N : Nat) : ofN (revN V N) N = (ofN V N).reverse := by
  have h : Bit (ofN V N).reverse := fun x hx => Bit.ofN V N x (List.mem_reverse.1 hx)
  have := ofN_numI h
  rwa [List.length_reverse, ofN_length] at this
theorem revN_bd (V : Int) (N : Nat) : 0 ≤ revN V N ∧ revN V N < 2 ^ N := by
  have h : Bit (ofN V N).reverse := fun x hx => Bit.ofN V N x (List.mem_reverse.1 hx)
  have := numI_bd h
  rwa [List.length_reverse, ofN_length] at this
theorem revN_revN (V : Int) (N : Nat) : revN (revN V N) N = numI (ofN V N) := by
  show numI (ofN (revN V N) N).reverse = _
  rw [revN_ofN, List.reverse_reverse]
theorem revN_at (V : Int) (N : Nat) {i : Nat} (hi : i < N) : revN V N / 2 ^ (N - 1 - i) % 2 = ix (ofN V N) i := by
  rw [← ix_ofN _ N (show N - 1 - i < N by omega), revN_ofN]
  have hk : i < (ofN V N).length := by rw [ofN_length]; exact hi
  have e : (ofN V N).length - 1 - (N - 1 - i) = i := by rw [ofN_length]; omega
  unfold ix
  simp only [List.getD_eq_getElem?_getD]
  rw [List.getElem?_reverse (by rw [ofN_length]; omega), e]

set_option maxRecDepth 100000 in
set_option maxHeartbeats 4000000 in
theorem bitsTurned_law (V N : Int) (A : Option Addr) (len cap : Nat) (b : List Int) (w : World) (hV : (Lit.int .u32 V).wf = true) (hN : (Lit.int .i64 N).wf = true) (T : RdI .u8 w w.heap.size A len b ∧ len ≤ maxLen ∧ ∀ n ∈ b, (Lit.int .u8 n).wf = true) :
    Calls Try.prog 7 #[.int .u32 V, .int .i64 N, .slice A len cap] w fun e w' => e = .returned (.bool true) ∧ Below w.heap.size w w' := by
  have hVb := bounds_u32 hV
  clear hV hN T
  have hcs : N < 0 ∨ (¬ N < 0 ∧ 32 < N) ∨ N = 0 ∨ (1 ≤ N ∧ N ≤ 32) := by omega
  rcases hcs with h | h | rfl | h
  · go_enter Try.func7, Try.ntmps7
    go_wp2_with (first
      | (go_at_call 28; refine (reverse_not _ _ _ (by omega)).mono ?_; rintro e w1 ⟨rfl, rfl⟩)
      | (go_at_call 10; refine (put_nil _ _ _).mono ?_; rintro e w1 ⟨rfl, rfl⟩)
      | (go_at_call 12; refine (wtrAlign_nil _).mono ?_; rintro e w1 ⟨rfl, rfl⟩)
      | (go_at_call 14; refine (wtrWrite_nil _ _).mono ?_; rintro e w1 ⟨rfl, rfl⟩)
      | (go_at_call 22; refine (rdrFeed_nil _ _).mono ?_; rintro e w1 ⟨rfl, rfl⟩)
      | (go_at_call 25; refine (rdrAlign_nil _).mono ?_; rintro e w1 ⟨rfl, rfl⟩)
      | (go_at_call 23; refine (peek_nil _ _).mono ?_; rintro e w1 ⟨rfl, rfl⟩)
      | (go_at_call 21; refine (get_nil _ _).mono ?_; rintro e w1 ⟨rfl, rfl⟩)
      | (go_at_call 9; refine (answers1_any _).mono ?_; rintro e wa ⟨rfl, hba⟩)
      | (go_at_call 19; refine (wtrBits_nil _).mono ?_; rintro e w1 ⟨rfl, rfl⟩)
      | (go_at_call 16; refine (wtrTake_nil _).mono ?_; rintro e w1 ⟨rfl, rfl⟩)
      | (go_at_call 27; refine (rdrLeft_nil _).mono ?_; rintro e w1 ⟨rfl, rfl⟩)
      | (go_at_call 26; refine (rdrRead_nil _ _).mono ?_; rintro e w1 ⟨rfl, rfl⟩))
    go_ret
    exact ⟨rfl, hba⟩
  · go_enter Try.func7, Try.ntmps7
    go_wp2_with (first
      | (go_at_call 28; refine (reverse_not _ _ _ (by omega)).mono ?_; rintro e w1 ⟨rfl, rfl⟩)
      | (go_at_call 10; refine (put_nil _ _ _).mono ?_; rintro e w1 ⟨rfl, rfl⟩)
      | (go_at_call 12; refine (wtrAlign_nil _).mono ?_; rintro e w1 ⟨rfl, rfl⟩)
      | (go_at_call 14; refine (wtrWrite_nil _ _).mono ?_; rintro e w1 ⟨rfl, rfl⟩)
      | (go_at_call 22; refine (rdrFeed_nil _ _).mono ?_; rintro e w1 ⟨rfl, rfl⟩)
      | (go_at_call 25; refine (rdrAlign_nil _).mono ?_; rintro e w1 ⟨rfl, rfl⟩)
      | (go_at_call 23; refine (peek_nil _ _).mono ?_; rintro e w1 ⟨rfl, rfl⟩)
      | (go_at_call 21; refine (get_nil _ _).mono ?_; rintro e w1 ⟨rfl, rfl⟩)
      | (go_at_call 9; refine (answers1_any _).mono ?_; rintro e wa ⟨rfl, hba⟩)
      | (go_at_call 19; refine (wtrBits_nil _).mono ?_; rintro e w1 ⟨rfl, rfl⟩)
      | (go_at_call 16; refine (wtrTake_nil _).mono ?_; rintro e w1 ⟨rfl, rfl⟩)
      | (go_at_call 27; refine (rdrLeft_nil _).mono ?_; rintro e w1 ⟨rfl, rfl⟩)
      | (go_at_call 26; refine (rdrRead_nil _ _).mono ?_; rintro e w1 ⟨rfl, rfl⟩))
    go_ret
    exact ⟨rfl, hba⟩
  · go_enter Try.func7, Try.ntmps7
    go_wp2_with (first
      | (go_at_call 28; refine (reverse_not _ _ _ (by omega)).mono ?_; rintro e w1 ⟨rfl, rfl⟩)
      | (go_at_call 11; refine (of_any _ V 0 hVb (by omega)).mono ?_; rintro e wo ⟨Ao, no, co, rfl, hoo, hbo⟩)
      | (go_at_call 24; refine (number_any _ _ _ _ _ _ hoo.rd (Bit.ofN V 0) (by rw [hoo.1, ofN_length]; decide)).mono ?_; rintro e w1 ⟨rfl, rfl⟩)
      | (go_at_call 10; refine (put_nil _ _ _).mono ?_; rintro e w1 ⟨rfl, rfl⟩)
      | (go_at_call 12; refine (wtrAlign_nil _).mono ?_; rintro e w1 ⟨rfl, rfl⟩)
      | (go_at_call 14; refine (wtrWrite_nil _ _).mono ?_; rintro e w1 ⟨rfl, rfl⟩)
      | (go_at_call 22; refine (rdrFeed_nil _ _).mono ?_; rintro e w1 ⟨rfl, rfl⟩)
      | (go_at_call 25; refine (rdrAlign_nil _).mono ?_; rintro e w1 ⟨rfl, rfl⟩)
      | (go_at_call 23; refine (peek_nil _ _).mono ?_; rintro e w1 ⟨rfl, rfl⟩)
      | (go_at_call 21; refine (get_nil _ _).mono ?_; rintro e w1 ⟨rfl, rfl⟩)
      | (go_at_call 9; refine (answers1_any _).mono ?_; rintro e wa ⟨rfl, hba⟩)
      | (go_at_call 19; refine (wtrBits_nil _).mono ?_; rintro e w1 ⟨rfl, rfl⟩)
      | (go_at_call 16; refine (wtrTake_nil _).mono ?_; rintro e w1 ⟨rfl, rfl⟩)
      | (go_at_call 27; refine (rdrLeft_nil _).mono ?_; rintro e w1 ⟨rfl, rfl⟩)
      | (go_at_call 26; refine (rdrRead_nil _ _).mono ?_; rintro e w1 ⟨rfl, rfl⟩))
    go_loop [15] (fun i => i = .int .i64 0) (fun _ => 0)
    case atStart => rfl
    case round =>
      subst hrel
      go_wp2_with (first
      | (go_at_call 28; refine (reverse_not _ _ _ (by omega)).mono ?_; rintro e w1 ⟨rfl, rfl⟩)
      | (go_at_call 11; refine (of_any _ V 0 hVb (by omega)).mono ?_; rintro e wo ⟨Ao, no, co, rfl, hoo, hbo⟩)
      | (go_at_call 24; refine (number_any _ _ _ _ _ _ hoo.rd (Bit.ofN V 0) (by rw [hoo.1, ofN_length]; decide)).mono ?_; rintro e w1 ⟨rfl, rfl⟩))
      go_ret
      exact ⟨rfl, hba.trans (hbo.mono hba.size)⟩
  · obtain ⟨K, rfl⟩ := Int.eq_ofNat_of_zero_le (show 0 ≤ N by omega)
    have hK : 1 ≤ (K : Int) ∧ (K : Int) ≤ 32 := h
    obtain ⟨X, hX⟩ : ∃ X, revN V K = X := ⟨_, rfl⟩
    have hXb := revN_bd V K
    have hp32 : (2 : Int) ^ K ≤ 4294967296 := by have := pow_mono2 (show K ≤ 32 by omega); simpa using this
    have hp0 := two_pos K
    rw [hX] at hXb
    have hX32 : 0 ≤ X ∧ X < 4294967296 := by omega
    have HX := Lib.hid hX
    have hxx : revN X K = numI (ofN V K) := by rw [← hX, revN_revN]
    obtain ⟨Y, hY⟩ : ∃ Y, numI (ofN V K) = Y := ⟨_, rfl⟩
    rw [hY] at hxx
    have HXX := Lib.hid hxx
    have HY := Lib.hid hY
    have hYb := numI_bd (Bit.ofN V K)
    rw [hY, ofN_length] at hYb
    have hY32 : 0 ≤ Y ∧ Y < 4294967296 := by omega
    have e1 : IntKind.u64.wrap (2 ^ K) = 2 ^ K := by rw [IntKind.wrap_u64]; exact Int.emod_eq_of_lt (by omega) (by omega)
    have hXlt : X < 2 ^ K := hXb.2
    clear hX hxx hY hYb hp32 hp0 hXb
    go_enter Try.func7, Try.ntmps7
    go_wp2_with (first
      | (go_at_call 28; refine (reverse_ok _ V K hVb hK).mono ?_; rintro e w1 ⟨rfl, rfl⟩; rw [HX.out])
      | (go_at_call 11; refine (of_any _ V K hVb hK.2).mono ?_; rintro e wo ⟨Ao, no, co, rfl, hoo, hbo⟩)
      | (go_at_call 10; refine (put_nil _ _ _).mono ?_; rintro e w1 ⟨rfl, rfl⟩)
      | (go_at_call 12; refine (wtrAlign_nil _).mono ?_; rintro e w1 ⟨rfl, rfl⟩)
      | (go_at_call 14; refine (wtrWrite_nil _ _).mono ?_; rintro e w1 ⟨rfl, rfl⟩)
      | (go_at_call 22; refine (rdrFeed_nil _ _).mono ?_; rintro e w1 ⟨rfl, rfl⟩)
      | (go_at_call 25; refine (rdrAlign_nil _).mono ?_; rintro e w1 ⟨rfl, rfl⟩)
      | (go_at_call 23; refine (peek_nil _ _).mono ?_; rintro e w1 ⟨rfl, rfl⟩)
      | (go_at_call 21; refine (get_nil _ _).mono ?_; rintro e w1 ⟨rfl, rfl⟩)
      | (go_at_call 9; refine (answers1_any _).mono ?_; rintro e wa ⟨rfl, hba⟩)
      | (go_at_call 19; refine (wtrBits_nil _).mono ?_; rintro e w1 ⟨rfl, rfl⟩)
      | (go_at_call 16; refine (wtrTake_nil _).mono ?_; rintro e w1 ⟨rfl, rfl⟩)
      | (go_at_call 27; refine (rdrLeft_nil _).mono ?_; rintro e w1 ⟨rfl, rfl⟩)
      | (go_at_call 26; refine (rdrRead_nil _ _).mono ?_; rintro e w1 ⟨rfl, rfl⟩))
    have hno := hoo.1
    rw [ofN_length] at hno
    subst hno
    go_loop [15] (fun i => ∃ k : Nat, k ≤ no ∧ i = .int .i64 k) (fun i => no - (intOf i).toNat)
    case atStart => exact ⟨0, Nat.zero_le _, rfl⟩
    case round =>
      obtain ⟨k, hk, rfl⟩ := hrel
      by_cases hlt : k < no
      · obtain ⟨J, hJ⟩ : ∃ J : Nat, no - 1 - k = J := ⟨_, rfl⟩
        have hJI : (no : Int) - 1 - (k : Int) = (J : Int) := by omega
        have hkI : (0 : Int) ≤ k ∧ (k : Int) < (no : Int) ∧ (J : Int) < 32 ∧ (0 : Int) ≤ J := by omega
        have hat := revN_at V no hlt
        rw [hJ, HX.out] at hat
        obtain ⟨g5, rfl⟩ := hoo.2.addr (by omega)
        have c5 := hoo.2.cell (i := k) (by omega)
        obtain ⟨x, hx⟩ : ∃ x, ix (ofN V no) k = x := ⟨_, rfl⟩
        rw [hx] at hat c5
        have hx01 : 0 ≤ x ∧ x < 2 := by
          have := Int.emod_nonneg (X / 2 ^ J) (b := 2) (by omega)
          have := Int.emod_lt_of_pos (X / 2 ^ J) (b := 2) (by omega)
          omega
        have e2 : (X / 2 ^ J).tmod 2 = x := by rw [Int.tmod_eq_emod_of_nonneg (Int.ediv_nonneg hX32.1 (Int.le_of_lt (two_pos J))), hat]
        clear hat hx hJ
        go_wp2
        go_round
        case rel => exact ⟨k + 1, hlt, by go_num⟩
        case measure => simp [intOf]; omega
      · obtain rfl : no = k := by omega
        go_wp2_with (first
          | (go_at_call 28; refine (reverse_ok _ X no hX32 hK).mono ?_; rintro e w1 ⟨rfl, rfl⟩; rw [HXX.out])
          | (go_at_call 24; refine (number_any _ _ _ _ _ _ hoo.rd (Bit.ofN V no) hK.2).mono ?_; rintro e w1 ⟨rfl, rfl⟩; rw [HY.out]))
        go_ret
        exact ⟨rfl, hba.trans (hbo.mono hba.size)⟩
end Go.Proofs.Ytefignampkdclaa
