/-
  The walk of the reference's Bits (a symbol's code as bits).
-/
import Derived.Test.YtjkmejcglhnnaaaProg
import Derived.Test.YtjkmejcglhnnaaaTBackP
import Derived.Test.YtjkmejcglhnnaaaRefB
namespace Go.Proofs.Ytjkmejcglhnnaaa
open Go.RowKit
set_option linter.unusedVariables false

theorem sym_take {l : List Int} {s N j : Nat} (e : ix l s = N) (hj : j < N) : (symBits l s).take (j + 1) = (symBits l s).take j ++ [(codeAt l s : Int) / 2 ^ (N - 1 - j) % 2] := by
  have hl : j < (symBits l s).length := by rw [symBits_length, e]; exact hj
  rw [take_last _ hl]
  congr 2
  rw [symBits_eq, e, Int.toNat_natCast]
  have : ix (ofN (codeAt l s) N).reverse j = ix (ofN (codeAt l s) N) (N - 1 - j) := by
    unfold ix
    rw [List.getD_eq_getElem?_getD, List.getD_eq_getElem?_getD, List.getElem?_reverse (by rw [ofN_length]; exact hj), ofN_length]
  rw [this, ix_ofN _ _ (by omega)]
def RBitsRel (w : World) (l : List Int) (s N : Nat) (o k : Value) (wr : World) : Prop :=
  ∃ (j d : Nat) (A : Option Addr), j ≤ N ∧ k = .int .i64 ((N : Int) - 1 - j) ∧ o = .slice A j d ∧ OwnI .u8 wr w.heap.size 5 A j d ((symBits l s).take j) ∧ Below w.heap.size w wr
set_option maxHeartbeats 1600000 in
theorem rbits_any (w : World) (A : Option Addr) (n c s N : Nat) (l : List Int) (hl : RdI .i64 w w.heap.size A n l) (hn : n ≤ 288) (hs : s < n) (e : ix l s = N) (h1 : 1 ≤ N) (h15 : N ≤ 15) :
    Calls Try.prog 20 #[.slice A n c, .int .i64 s] w (MkPost w (symBits l s)) := by
  obtain ⟨i0, hi, hz0, hz1, hz2⟩ := info_parts fbyte_info
  have Hi := Lib.hid hi
  have Hz0 := Lib.hid hz0
  have Hz1 := Lib.hid hz1
  have Hz2 := Lib.hid hz2
  clear hi hz0 hz1 hz2
  have HN := Lib.hid hl.1
  obtain ⟨C, hC⟩ : ∃ C, codeAt l s = C := ⟨_, rfl⟩
  have hcs : C < 4294967296 := by
    rw [← hC, codeAt_yes h1 h15 e]
    have h1 := nxt_bd l (by rw [← hl.1]; exact hn) h15
    have h2 := cnt_le l s N
    omega
  have hcI : (0 : Int) ≤ C ∧ (C : Int) < 4294967296 := by omega
  have HT : Hid (∀ j, j < N → (symBits l s).take (j + 1) = (symBits l s).take j ++ [(C : Int) / 2 ^ (N - 1 - j) % 2]) := fun j hj => by rw [sym_take e hj, hC]
  have hsI : (0 : Int) ≤ s ∧ (s : Int) < (n : Int) := by omega
  have hNI : (1 : Int) ≤ N ∧ (N : Int) ≤ 15 := by omega
  go_enter Try.func20, Try.ntmps20
  go_wp2_with fail
  refine (rcodes_any _ _ _ _ _ _ hl (Nat.le_refl _) hn).mono ?_
  rintro e w1 ⟨g, rfl, hcd, hb1⟩
  obtain ⟨adc, eadc, _, cc1⟩ := hcd.at_ hs
  rw [ix_codesOf l (by rw [← HN.out]; exact hn) (by rw [← HN.out]; exact hs), hC] at cc1
  obtain ⟨adl, rfl, hbl, cl1⟩ := (hl.below hb1).at_ hs
  rw [e] at cl1
  cases eadc
  rw [addr0] at cc1
  go_wp2_with fail
  clear cc1 cl1 hcd hC
  go_loopw [5, 7] (RBitsRel w l s N) (fun _ k _ => (intOf k + 1).toNat)
  case atStart => exact ⟨0, 0, none, Nat.zero_le _, by go_num, rfl, by rw [List.take_zero]; exact OwnI.nil_, hb1⟩
  case round =>
    clear hb1
    obtain ⟨j, d, A1, hj, rfl, rfl, ho, hb⟩ := hrel
    by_cases hlt : j < N
    · obtain ⟨p, hp⟩ : ∃ p : Nat, N - 1 - j = p := ⟨_, rfl⟩
      have hpI : (N : Int) - 1 - (j : Int) = (p : Int) := by omega
      have hpI2 : (0 : Int) ≤ p ∧ (p : Int) ≤ 14 := by omega
      have HT2 := HT.out j hlt
      rw [hp] at HT2
      obtain ⟨y, hy⟩ : ∃ y, (C : Int) / 2 ^ p % 2 = y := ⟨_, rfl⟩
      rw [hy] at HT2
      have e0 : (p : Int) % 18446744073709551616 = (p : Int) := by omega
      have e1 : ((C : Int) / 2 ^ p).tmod 2 = y := by rw [Int.tmod_eq_emod_of_nonneg (Int.ediv_nonneg hcI.1 (Int.le_of_lt (two_pos p))), hy]
      have hyb : 0 ≤ y ∧ y ≤ 1 := by omega
      have hoA := ho.alloc (.cells #[.int .u8 y] 5)
      have hbA := hb.alloc hb.size (.cells #[.int .u8 y] 5)
      have HTH := Lib.hid HT2
      have HPI := Lib.hid hpI
      rw [hpI]
      clear hy HT2 hpI hp
      go_wp2_with (at_builtin; (refine wpList_app .u8 w.heap.size 5 i0 1 rfl (.tmp 22) (.tmp 29) _ rfl Try.underlying23 Hi.out Hz0.out Hz1.out Hz2.out rfl hoA rfl (RdI.lit .u8 wr [y] 5) (by omega) (by omega) hbA.size ?_)
                   intro A4 d4 w4 hown4 hg4 hat4)
      go_roundw
      case rel => exact ⟨j + 1, d4, A4, hlt, by have := HPI.out; congr 1; omega, rfl, by rw [HTH.out]; exact hown4, hbA.grown hg4 hbA.size fun q hq => (ho.2.lt hq).1⟩
      case measure => have := HPI.out; simp [intOf]
    · obtain rfl : j = N := by omega
      have hm : (j : Int) - 1 - (j : Int) = -1 := by omega
      rw [hm]
      have HE : Hid ((symBits l s).take j = symBits l s) := by show _ = _; rw [List.take_of_length_le (by rw [symBits_length, e]; simp)]
      go_wp2_with fail
      go_ret
      exact ⟨A1, j, d, rfl, by rw [HE.out] at ho; exact ho, hb⟩
end Go.Proofs.Ytjkmejcglhnnaaa
