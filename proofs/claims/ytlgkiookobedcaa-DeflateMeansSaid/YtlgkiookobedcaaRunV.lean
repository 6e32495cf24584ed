/-
  The walk of block.runs.
-/
import Derived.Test.YtlgkiookobedcaaRunW
import Derived.BigRegion
import Derived.Deep.CutBlock
import Derived.Deep.DeepCutAuto
namespace Go.Proofs.Ytlgkiookobedcaa
open Go.RowKit
set_option linter.unusedVariables false
def RnsR (w : World) (l : List Int) (gk : Nat) (v3 v4 : Value) (wr : World) : Prop :=
  ∃ (i m c : Nat) (A : Option Addr) (L : List Rn), v4 = .int .i64 i ∧ v3 = .slice A m c ∧ i ≤ l.length ∧ Hid (OwnR wr w.heap.size A m c L) ∧ Hid (L ++ runsP (l.drop i) = runsP l) ∧ Hid (Below w.heap.size w wr) ∧ Hid (gk = l.length - i)
set_option maxRecDepth 100000 in
set_option maxHeartbeats 4000000 in
theorem runs_any (w : World) (Al : Option Addr) (nl cl B : Nat) (l : List Int) (hl : RdI .i64 w B Al nl l) (hB : B ≤ w.heap.size) (hn : nl ≤ 1000) (hp : ∀ i, i < l.length → 0 ≤ ix l i) : Calls Try.prog 68 #[.slice Al nl cl] w (RunPost w (runsP l)) := by
  obtain ⟨i0, hi, hz0, hz1, hz2⟩ := info_parts run_info
  have HI := Lib.hid (⟨hi, hz0, hz1, hz2⟩ : _ ∧ _ ∧ _ ∧ _)
  have HL := Lib.hid (⟨hl, hl.1, hB, hp⟩ : _ ∧ _ ∧ _ ∧ _)
  have hnI : (0 : Int) ≤ (nl : Int) ∧ (nl : Int) ≤ 1000 := by omega
  clear hi hz0 hz1 hz2 hl hB hp
  go_enter Try.func68, Try.ntmps68
  go_wp2_with fail
  go_loopg [3, 4] nl (RnsR w l)
  case atStart => exact ⟨0, 0, 0, none, [], rfl, rfl, Nat.zero_le _, OwnR.nil_, rfl, Below.refl _ _, by show _ = _; rw [← HL.out.2.1]; omega⟩
  case round =>
    obtain ⟨i, m, c, A, L, rfl, rfl, hi, ho, hLe, hb, hg⟩ := hrel
    by_cases hlt : i < nl
    · have hltI : (i : Int) < (nl : Int) ∧ (0 : Int) ≤ (i : Int) := by omega
      obtain ⟨ad, hA, hbl, hc⟩ := HL.out.1.at_ hlt
      have hrd : ∀ j, j < nl → wr.cell? (ad.add j) = some (.int .i64 (ix l j)) := fun j hj => by
        obtain ⟨ad', hA', hbl', hc'⟩ := HL.out.1.at_ hj
        rw [hA] at hA'; injection hA' with hA'; subst hA'
        exact (hb.out.cell (by rw [addr_block]; exact Nat.lt_of_lt_of_le hbl HL.out.2.2.1)).trans hc'
      have HRD := Lib.hid hrd
      have hc0 := hrd i hlt
      obtain ⟨K, hK⟩ : ∃ K, ix l i = K := ⟨_, rfl⟩
      have hK0 : 0 ≤ K := by rw [← hK]; exact HL.out.2.2.2 i (by rw [← HL.out.2.1]; exact hlt)
      rw [hK] at hc0
      have HK := Lib.hid hK
      have HLT := Lib.hid (show i < l.length by rw [← HL.out.2.1]; exact hlt)
      subst hA
      clear hrd hbl hc hK hlt
      obtain ⟨M, hM⟩ : ∃ M, runN K (l.drop (i + 1)) = M := ⟨_, rfl⟩
      have HM := Lib.hid hM
      have hMb : i + (M + 1) ≤ nl := by have h1 := runN_le K (l.drop (i + 1)); rw [List.length_drop, hM] at h1; have := HLT.out; have := HL.out.2.1; omega
      have hstep : Hid (∀ j, j ≤ M → (j < M ↔ i + (j + 1) < nl ∧ ix l (i + (j + 1)) = K)) := fun j hj => by
        have hjl := runN_lt K (l.drop (i + 1)) j (by rw [hM]; exact hj)
        rw [List.length_drop, ix_drop, ← HL.out.2.1, hM] at hjl
        rw [show i + (j + 1) = i + 1 + j by omega, hjl]
        constructor
        · intro h; exact ⟨by omega, h.2⟩
        · intro h; exact ⟨by omega, h.2⟩
      have HAT := Lib.hid (runsP_at (l := l) (i := i) (m := M) HLT.out (by rw [HK.out]; exact hM))
      clear hM
      obtain ⟨g0, hg0⟩ : ∃ g0, g0 = gk := ⟨_, rfl⟩
      subst hg0
      go_upto_block 2 with fail
      go_cut [6] (fun v6 wx => v6 = .int .i64 ((M : Int) + 1) ∧ wx = wr)
      case first =>
        go_wp2_with fail
        go_loopg [6] nl (fun (gj : Nat) (v6 : Value) wx => ∃ j : Nat, v6 = .int .i64 ((j + 1 : Nat) : Int) ∧ wx = wr ∧ j ≤ M ∧ Hid (gj + j = nl))
        case atStart => exact ⟨0, rfl, rfl, Nat.zero_le _, by show nl + 0 = nl; rfl⟩
        case round =>
          rename World => wi
          obtain ⟨j, rfl, rfl, hj, hgj⟩ := hrel
          have hs := hstep.out j hj
          obtain ⟨q, hq⟩ : ∃ q, j + 1 = q := ⟨_, rfl⟩
          rw [hq] at hs ⊢
          have HQ := Lib.hid hq
          obtain ⟨t, ht⟩ : ∃ t, i + q = t := ⟨_, rfl⟩
          have htb : t ≤ nl := by omega
          have htI : (i : Int) + (q : Int) = (t : Int) ∧ (t : Int) ≤ (nl : Int) ∧ (0 : Int) ≤ (q : Int) ∧ (0 : Int) ≤ (t : Int) := by omega
          rw [ht] at hs
          have HT := Lib.hid ht
          clear hq ht
          have hfin : ∀ (_ : ¬ (t < nl ∧ ix l t = K)), Hid (Value.int .i64 (q : Int) = Value.int .i64 ((M : Int) + 1)) := fun h => by
            show _ = _
            have h1 : ¬ j < M := fun h2 => h (hs.1 h2)
            have h3 := HQ.out
            rw [show (q : Int) = (M : Int) + 1 by omega]
          have HS := Lib.hid hs
          clear hs hj
          by_cases ht1 : t < nl
          · have ht1I : (t : Int) < (nl : Int) := by omega
            have hct := HRD.out t ht1
            by_cases hte : ix l t = K
            · rw [hte] at hct
              have HNX := Lib.hid (HS.out.2 ⟨ht1, hte⟩)
              clear hfin HS hte
              go_wp2_with fail
              go_roundg (gk - 1)
              case measure => have := hgj.out; have := HQ.out; have := HT.out; omega
              case rel => exact ⟨j + 1, by have := HQ.out; go_num, rfl, HNX.out, by show gk - 1 + (j + 1) = nl; have := hgj.out; have := HT.out; have := HQ.out; omega⟩
            · have HR := hfin fun h => hte h.2
              have hteb : (ix l t == K) = false := by simpa using hte
              obtain ⟨X, hX⟩ : ∃ X, ix l t = X := ⟨_, rfl⟩
              rw [hX] at hct hteb
              clear hfin HS hte hX
              go_wp2_with fail
              go_meet
              exact ⟨HR.out, rfl⟩
          · have ht1I : ¬ (t : Int) < (nl : Int) := by omega
            have HR := hfin fun h => ht1 h.1
            clear hfin HS
            go_wp2_with fail
            go_meet
            exact ⟨HR.out, rfl⟩
      case rest =>
        obtain ⟨rfl, hwc⟩ := hcut
        obtain rfl := hwc.symm
        have hMI : (0 : Int) ≤ (M : Int) ∧ (i : Int) + (M : Int) + 1 ≤ (nl : Int) := by omega
        have hmb : m ≤ 1000 := by
          have h1 := hLe.out
          have h2 := congrArg List.length h1
          rw [List.length_append] at h2
          have h3 := runsP_len l
          have h4 := ho.out.1
          have := HL.out.2.1
          omega
        by_cases hKp : 0 < K
        · have hat := HAT.out
          rw [HK.out, if_pos hKp] at hat
          have HNX : Hid ((L ++ [⟨K, 0, 0⟩]) ++ repP K M ++ runsP (l.drop (i + (M + 1))) = runsP l) := by show _ = _; rw [← hLe.out, hat]; simp
          clear hat HAT hLe
          have hoA := ho.out.alloc (.cells #[.int .i64 K, .int .i64 0, .int .i64 0] 115)
          have hbA := hb.out.alloc hb.out.size (.cells #[.int .i64 K, .int .i64 0, .int .i64 0] 115)
          have HOA := Lib.hid (⟨hoA, hbA⟩ : _ ∧ _)
          clear hoA hbA
          go_wp2_with (at_builtin; (refine wpList_appR w.heap.size i0 rfl (.tmp 38) (.tmp 41) rfl HI.out.1 HI.out.2.1 HI.out.2.2.1 HI.out.2.2.2 rfl HOA.out.1 rfl (RdR.lit wr K 0 0 115) (by omega) HOA.out.2.size ?_)
                       intro A4 d4 w4 hown4 hg4 hat4
                       have HO4 := Lib.hid (⟨hown4, HOA.out.2.grown hg4 HOA.out.2.size fun q hq => (ho.out.2.lt hq).1⟩ : _ ∧ _)
                       clear hown4 hg4 hat4)
          have HC := Lib.hid (repeated_any w4 K M (by omega) (by omega))
          have HM4 := Lib.hid (show m + 1 ≤ 1001 by omega)
          go_wp2_with fail
          refine HC.out.mono ?_
          rintro e w5 ⟨A5, n5, c5, rfl, ho5, hb5⟩
          have hn5 : n5 ≤ 1000 := by have h1 := ho5.1; have h2 := repP_len K M; omega
          have ho4' := HO4.out.1.keeps hb5
          have hb5' := HO4.out.2.trans (hb5.mono HO4.out.2.size)
          have HO5 := Lib.hid (⟨ho4', hb5', ho5.rd⟩ : _ ∧ _ ∧ _)
          clear ho4' hb5' ho5 hb5
          go_wp2_with (at_builtin; (refine wpList_appR w.heap.size i0 rfl (.tmp 45) (.tmp 48) rfl HI.out.1 HI.out.2.1 HI.out.2.2.1 HI.out.2.2.2 rfl HO5.out.1 rfl HO5.out.2.2 (by omega) HO5.out.2.1.size ?_)
                       intro A6 d6 w6 hown6 hg6 hat6
                       have HO6 := Lib.hid (⟨hown6, HO5.out.2.1.grown hg6 HO5.out.2.1.size fun q hq => (HO5.out.1.2.lt hq).1⟩ : _ ∧ _)
                       clear hown6 hg6 hat6)
          go_roundg (g0 - (M + 1))
          case measure => have := hg.out; have := HLT.out; omega
          case rel => exact ⟨i + (M + 1), m + 1 + n5, d6, A6, _, by go_num, rfl, by have := HL.out.2.1; omega, HO6.out.1, HNX.out, HO6.out.2, by show g0 - (M + 1) = l.length - (i + (M + 1)); have := hg.out; omega⟩
        · have hat := HAT.out
          rw [HK.out, if_neg hKp] at hat
          have HNX : Hid (L ++ repP K (M + 1) ++ runsP (l.drop (i + (M + 1))) = runsP l) := by show _ = _; rw [← hLe.out, hat]; simp
          clear hat HAT hLe
          have HC := Lib.hid (repeated_any wr K (M + 1) (by omega) hK0)
          have hcM : ((M + 1 : Nat) : Int) = (M : Int) + 1 := by omega
          rw [hcM] at HC
          clear hcM
          go_wp2_with fail
          refine HC.out.mono ?_
          rintro e w5 ⟨A5, n5, c5, rfl, ho5, hb5⟩
          have hn5 : n5 ≤ 1000 := by have h1 := ho5.1; have h2 := repP_len K (M + 1); omega
          have ho4' := ho.out.keeps hb5
          have hb5' := hb.out.trans (hb5.mono hb.out.size)
          have HO5 := Lib.hid (⟨ho4', hb5', ho5.rd⟩ : _ ∧ _ ∧ _)
          clear ho4' hb5' ho5 hb5
          go_wp2_with (at_builtin; (refine wpList_appR w.heap.size i0 rfl (.tmp 45) (.tmp 48) rfl HI.out.1 HI.out.2.1 HI.out.2.2.1 HI.out.2.2.2 rfl HO5.out.1 rfl HO5.out.2.2 (by omega) HO5.out.2.1.size ?_)
                       intro A6 d6 w6 hown6 hg6 hat6
                       have HO6 := Lib.hid (⟨hown6, HO5.out.2.1.grown hg6 HO5.out.2.1.size fun q hq => (HO5.out.1.2.lt hq).1⟩ : _ ∧ _)
                       clear hown6 hg6 hat6)
          go_roundg (g0 - (M + 1))
          case measure => have := hg.out; have := HLT.out; omega
          case rel => exact ⟨i + (M + 1), m + n5, d6, A6, _, by go_num, rfl, by have := HL.out.2.1; omega, HO6.out.1, HNX.out, HO6.out.2, by show g0 - (M + 1) = l.length - (i + (M + 1)); have := hg.out; omega⟩
    · obtain rfl : i = nl := by have := HL.out.2.1; omega
      have hkI : ¬ (i : Int) < (i : Int) := by omega
      have HLE : Hid (L = runsP l) := by
        have h := hLe.out
        rw [List.drop_of_length_le (by rw [← HL.out.2.1]; exact Nat.le_refl _), runsP_nil, List.append_nil] at h
        exact h
      clear hLe hlt
      go_wp2_with fail
      go_ret
      exact ⟨A, m, c, rfl, by rw [← HLE.out]; exact ho.out, hb.out⟩
end Go.Proofs.Ytlgkiookobedcaa
