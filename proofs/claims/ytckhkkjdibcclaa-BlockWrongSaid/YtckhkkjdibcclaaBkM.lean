/-
  The walk of block.may.
-/
import Derived.Test.YtckhkkjdibcclaaProg
import Derived.Test.YtckhkkjdibcclaaBkP
import Derived.Test.YtckhkkjdibcclaaSound
import Derived.Test.YtckhkkjdibcclaaTokO
namespace Go.Proofs.Ytckhkkjdibcclaa
open Go.RowKit
set_option linter.unusedVariables false
/-- may a block be so? m bytes stand beside the tokens -/
def bkMay (kind : Int) (toks : List Tok) (m : Nat) : Bool :=
  if kind = 0 then decide (m ≤ 65535) else if ¬ (kind = 1 ∨ kind = 2) ∨ 1048576 ≤ toks.length then false else toks.all fun t => decide (soundT t)
theorem bkMay_true {toks : List Tok} (h : ∀ i, i < toks.length → soundT (tokAt toks i)) : (toks.all fun t => decide (soundT t)) = true := by
  rw [List.all_eq_true]
  intro t ht
  obtain ⟨i, hi, rfl⟩ := List.getElem_of_mem ht
  have := h i hi
  have e : tokAt toks i = toks[i] := by simp [tokAt, hi]
  rw [e] at this
  exact decide_eq_true this
theorem bkMay_false {toks : List Tok} {i : Nat} (hi : i < toks.length) (h : ¬ soundT (tokAt toks i)) : (toks.all fun t => decide (soundT t)) = false := by
  rw [List.all_eq_false]
  have e : tokAt toks i = toks[i] := by simp [tokAt, hi]
  rw [e] at h
  exact ⟨toks[i], List.getElem_mem hi, by simpa using h⟩
set_option maxRecDepth 100000 in
set_option maxHeartbeats 2000000 in
theorem may_any (w : World) (kind : Int) (At : Option Addr) (nt ct : Nat) (toks : List Tok) (hT : RdT w w.heap.size At nt toks) (hnt : (nt : Int) ≤ 4611686018427387904) (Ar : Option Addr) (m cr : Nat) :
    Calls Try.prog 28 #[.int .i64 kind, .slice At nt ct, .slice Ar m cr] w fun e w' => e = .returned (.bool (bkMay kind toks m)) ∧ Below w.heap.size w w' := by
  have hnl := hT.1
  by_cases h0 : kind = 0
  · subst h0
    have hv : bkMay 0 toks m = decide (m ≤ 65535) := by unfold bkMay; rw [if_pos rfl]
    rw [hv]
    clear hv hT hnl
    by_cases hm : m ≤ 65535
    · have hmI : (m : Int) ≤ 65535 := by omega
      go_enter Try.func28, Try.ntmps28
      go_wp2_with fail
      go_ret
      exact ⟨by simp; omega, Below.refl _ _⟩
    · have hmI : ¬ (m : Int) ≤ 65535 := by omega
      go_enter Try.func28, Try.ntmps28
      go_wp2_with fail
      go_ret
      exact ⟨by simp, Below.refl _ _⟩
  · have h0' : (kind == 0) = false := by simpa using h0
    by_cases hbad : ¬ (kind = 1 ∨ kind = 2) ∨ 1048576 ≤ toks.length
    · have hv : bkMay kind toks m = false := by unfold bkMay; rw [if_neg h0, if_pos hbad]
      rw [hv]
      rw [← hnl] at hbad
      by_cases h1 : kind = 1
      · subst h1
        have hn : (1048576 : Int) ≤ (nt : Int) := by omega
        have hnN : 1048576 ≤ nt := by omega
        clear hv hT hnl hbad
        go_enter Try.func28, Try.ntmps28
        go_wp2_with fail
        go_ret
        exact ⟨by simp, Below.refl _ _⟩
      · have h1' : (kind == 1) = false := by simpa using h1
        by_cases h2 : kind = 2
        · subst h2
          have hn : (1048576 : Int) ≤ (nt : Int) := by omega
          have hnN : 1048576 ≤ nt := by omega
          clear hv hT hnl hbad
          go_enter Try.func28, Try.ntmps28
          go_wp2_with fail
          go_ret
          exact ⟨by simp, Below.refl _ _⟩
        · have h2' : (kind == 2) = false := by simpa using h2
          clear hv hT hnl hbad
          go_enter Try.func28, Try.ntmps28
          go_wp2_with fail
          go_ret
          exact ⟨by simp, Below.refl _ _⟩
    · have hv : bkMay kind toks m = toks.all fun t => decide (soundT t) := by unfold bkMay; rw [if_neg h0, if_neg hbad]
      have HV := Lib.hid hv
      have hk12 : kind = 1 ∨ kind = 2 := by omega
      have hn : ¬ (1048576 : Int) ≤ (nt : Int) := by omega
      have hnN : ¬ 1048576 ≤ nt := by omega
      have hnd : decide (1048576 ≤ nt) = false := decide_eq_false hnN
      have hndI : decide ((1048576 : Int) ≤ (nt : Int)) = false := decide_eq_false hn
      have HT := Lib.hid (⟨hT, hnl⟩ : _ ∧ _)
      have hntI : (0 : Int) ≤ (nt : Int) := by omega
      clear hv hT hnl hbad
      rcases hk12 with rfl | rfl
      all_goals
        go_enter Try.func28, Try.ntmps28
        go_wp2_with fail
        go_loopg [27] nt (fun (gk : Nat) (v27 : Value) wx => ∃ k : Nat, v27 = .int .i64 k ∧ k ≤ nt ∧ Hid (∀ i, i < k → soundT (tokAt toks i)) ∧ Hid (Below w.heap.size w wx) ∧ Hid (gk = nt - k))
        case atStart => exact ⟨0, rfl, Nat.zero_le _, fun i hi => absurd hi (Nat.not_lt_zero _), Below.refl _ _, rfl⟩
        case round =>
          obtain ⟨k, rfl, hk, hall, hb, hg⟩ := hrel
          by_cases hlt : k < nt
          · have hkI : (k : Int) < (nt : Int) ∧ (0 : Int) ≤ (k : Int) := by omega
            obtain ⟨ad, hA, hbl, hcs⟩ := (HT.out.1.below hb.out).2 (by omega)
            obtain ⟨a0, a1, a2⟩ := hcs k hlt
            rw [addr_next _ _ _ (by omega)] at a1 a2
            obtain ⟨⟨T0, N, D⟩, ht⟩ : ∃ t : Tok, tokAt toks k = t := ⟨_, rfl⟩
            rw [ht] at a0 a1 a2
            replace a0 : wr.cell? (ad.add (k * 3)) = some (.int .u8 T0) := a0
            replace a1 : wr.cell? { block := (ad.add (k * 3)).block, off := (ad.add (k * 3)).off + 1 } = some (.int .i64 N) := a1
            replace a2 : wr.cell? { block := (ad.add (k * 3)).block, off := (ad.add (k * 3)).off + 2 } = some (.int .i64 D) := a2
            have HX := Lib.hid (⟨ht, hlt⟩ : _ ∧ _)
            subst hA
            clear hbl hcs ht hlt
            have hbA := Lib.hid (hb.out.alloc hb.out.size (.cells #[.int .u8 T0, .int .i64 N, .int .i64 D] 27))
            by_cases hs : soundB T0 N D = true
            · have hsn : soundT (tokAt toks k) := by rw [HX.out.1]; rw [soundB_iff] at hs; exact of_decide_eq_true hs
              have HSN := Lib.hid hsn
              clear hsn
              go_wp2_with fail
              refine (sound_any T0 N D _).mono ?_
              rintro e w5 ⟨rfl, hb5⟩
              rw [hs]
              have hb6 := Lib.hid (hbA.out.trans (hb5.mono hbA.out.size))
              clear hb5
              go_wp2_with fail
              go_roundg (nt - (k + 1))
              case measure => have := hg.out; have := HX.out.2; omega
              case rel => exact ⟨k + 1, by go_num, HX.out.2, fun i hi => by
                by_cases e : i = k
                · subst e; exact HSN.out
                · exact hall.out i (by omega), hb6, rfl⟩
            · have hsf : soundB T0 N D = false := by simpa using hs
              have hsn : ¬ soundT (tokAt toks k) := fun h => by rw [HX.out.1] at h; rw [soundB_iff] at hs; exact hs (decide_eq_true h)
              have HSN := Lib.hid (HV.out.trans (bkMay_false (by rw [← HT.out.2]; exact HX.out.2) hsn))
              clear hsn hs
              go_wp2_with fail
              refine (sound_any T0 N D _).mono ?_
              rintro e w5 ⟨rfl, hb5⟩
              rw [hsf]
              have hb6 := Lib.hid (hbA.out.trans (hb5.mono hbA.out.size))
              clear hb5
              go_wp2_with fail
              go_ret
              exact ⟨ret_bool HSN.out.symm, hb6.out⟩
          · obtain rfl : k = nt := by omega
            have hkI : ¬ (k : Int) < (k : Int) := by omega
            have HSN := Lib.hid (HV.out.trans (bkMay_true (fun i hi => hall.out i (by rw [HT.out.2]; exact hi))))
            clear hlt
            go_wp2_with fail
            go_ret
            exact ⟨ret_bool HSN.out.symm, hb.out⟩
end Go.Proofs.Ytckhkkjdibcclaa
