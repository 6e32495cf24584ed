/-
  The walk of the statement MatchFar.
-/
import Derived.Test.YtlnmicocmbdbdaaProg
import Derived.Test.YtlnmicocmbdbdaaLawMMeans
namespace Go.Proofs.Ytlnmicocmbdbdaa
open Go.RowKit
set_option linter.unusedVariables false

def FarRel (w : World) (nb top : Nat) (o i : Value) (wr : World) : Prop :=
  ∃ (k n c : Nat) (A : Option Addr) (x : List Int), k ≤ top ∧ i = .int .i64 k ∧ o = .slice A n c ∧ OwnI .u8 wr w.heap.size 5 A n c x ∧ Hid (n = nb + 2 * k) ∧ (∀ v ∈ x, 0 ≤ v ∧ v < 256) ∧ Below w.heap.size w wr
set_option maxRecDepth 100000 in
set_option maxHeartbeats 4000000 in
theorem matchFar_law (A : Option Addr) (n c : Nat) (b : List Int) (gap level : Int) (w : World) (T : InC .u8 w A n c b) (hg : (Lit.int .u16 gap).wf = true) (hl : (Lit.int .i64 level).wf = true) :
    Calls Try.prog 7 #[.slice A n c, .int .u16 gap, .int .i64 level] w fun e w' => e = .returned (.bool true) ∧ Below w.heap.size w w' := by
  obtain ⟨R, m0, f0, lc0, cm0⟩ := T
  have hn : (n : Int) ≤ 9223372036854775807 := by unfold maxLen at m0; omega
  have hby : ∀ x ∈ b, 0 ≤ x ∧ x < 256 := fun x hx => bounds_u8 (f0 x hx)
  have hgb := bounds_u16 hg
  have hlb := bounds_i64 hl
  clear m0 f0 cm0 hg hl
  by_cases h3 : (n : Int) < 3
  · go_enter Try.func7, Try.ntmps7
    go_wp2_with fail
    refine (answers9_any _).mono ?_
    rintro e w4 ⟨rfl, hb4⟩
    go_wp2
    go_ret
    exact ⟨rfl, hb4⟩
  by_cases h100 : 100 < (n : Int)
  · go_enter Try.func7, Try.ntmps7
    go_wp2_with fail
    refine (answers9_any _).mono ?_
    rintro e w4 ⟨rfl, hb4⟩
    go_wp2
    go_ret
    exact ⟨rfl, hb4⟩
  have hn1 : (n : Int) ≤ 100 ∧ (0 : Int) ≤ n := by omega
  obtain ⟨G, hG⟩ := Int.eq_ofNat_of_zero_le (show 0 ≤ gap % 200 by omega)
  have hGt : gap.tmod 200 = (G : Int) := by rw [Int.tmod_eq_emod_of_nonneg hgb.1, hG]
  have hGb : (0 : Int) ≤ G ∧ (G : Int) ≤ 199 := by omega
  obtain ⟨i0, hi, hz0, hz1, hz2⟩ := info_parts fbyte2_info
  have Hi := Lib.hid hi
  have Hz0 := Lib.hid hz0
  have Hz1 := Lib.hid hz1
  have Hz2 := Lib.hid hz2
  clear hi hz0 hz1 hz2
  have hra := R.alloc (Nat.le_refl _) (.cells #[] 5)
  go_enter Try.func7, Try.ntmps7
  go_wp2_with (at_builtin; (refine wpList_app .u8 w.heap.size 5 i0 1 rfl (.tmp 21) (.tmp 22) _ rfl Try.underlying22 Hi.out Hz0.out Hz1.out Hz2.out rfl (OwnI.lit rfl [] _ (Nat.le_refl _) (by simp)) rfl hra (by simp; omega) (by omega) (by simp) ?_)
               intro A2 d2 w2 ho2 hg2 hat2)
  rw [List.nil_append, Nat.zero_add] at ho2
  have hb2 : Below w.heap.size w w2 := ((Below.refl _ w).alloc (Nat.le_refl _) _).grown hg2 (by simp) (by simp [blkOf])
  clear hra hg2 hat2
  go_loopw [7, 8] (FarRel w n (32700 + G)) (fun _ i _ => 32700 + G - (intOf i).toNat)
  case atStart => exact ⟨0, n, d2, A2, b, Nat.zero_le _, rfl, rfl, ho2, rfl, hby, hb2⟩
  case round =>
    clear ho2 hb2
    obtain ⟨k, n1, c1, A1, x, hk, rfl, rfl, ho, hn1', hxb, hb⟩ := hrel
    by_cases hlt : k < 32700 + G
    · have hkI : (k : Int) < 32700 + (G : Int) ∧ (0 : Int) ≤ k := by omega
      obtain ⟨u, hu⟩ : ∃ u, (k : Int) / 256 = u := ⟨_, rfl⟩
      obtain ⟨v, hv⟩ : ∃ v, (k : Int) % 256 = v := ⟨_, rfl⟩
      have huv : 0 ≤ u ∧ u < 256 ∧ 0 ≤ v ∧ v < 256 := by omega
      have hoA := ho.alloc (.cells #[.int .u8 u, .int .u8 v] 5)
      have hbA := hb.alloc hb.size (.cells #[.int .u8 u, .int .u8 v] 5)
      have hlit := RdI.lit .u8 wr [u, v] 5
      have hn1b : n1 + 2 ≤ 100000 := by have := hn1'.out; omega
      go_upto_region 8 with (at_builtin; (refine wpList_app .u8 w.heap.size 5 i0 1 rfl (.tmp 32) (.tmp 38) _ rfl Try.underlying22 Hi.out Hz0.out Hz1.out Hz2.out rfl hoA rfl hlit (by simp; omega) (by omega) hbA.size ?_); intro A4 d4 w4 hown4 hg4 hat4)
      have hrel2 : FarRel w n (32700 + G) (.slice A4 (n1 + 2) d4) (.int .i64 ((k : Int) + 1)) w4 := ⟨k + 1, n1 + 2, d4, A4, x ++ [u, v], by omega, by go_num, rfl, hown4, by show _ = _; rw [hn1'.out]; omega, (fun y hy => by
        rcases List.mem_append.1 hy with h | h
        · exact hxb y h
        · simp at h
          rcases h with rfl | rfl <;> omega), hbA.grown hg4 hbA.size fun q hq => (ho.2.lt hq).1⟩
      have hxb4 : ∀ y ∈ x ++ [u, v], 0 ≤ y ∧ y < 256 := (fun y hy => by
        rcases List.mem_append.1 hy with h | h
        · exact hxb y h
        · simp at h
          rcases h with rfl | rfl <;> omega)
      have hb4 := hbA.grown hg4 hbA.size fun q hq => (ho.2.lt hq).1
      obtain ⟨n4, hn4⟩ : ∃ n4, n1 + 2 = n4 := ⟨_, rfl⟩
      obtain ⟨x4, hx4⟩ : ∃ x4, x ++ [u, v] = x4 := ⟨_, rfl⟩
      rw [hn4] at hrel2 hown4 hn1b ⊢
      rw [hx4] at hown4 hxb4
      clear hn4 hx4 hoA hbA hlit ho hn1' hxb hb hg4 hat4 hu hv huv
      by_cases hbr1 : 33000 < n4
      · have hbrI : (33000 : Int) < (n4 : Int) := by omega
        by_cases hbr2 : 16300 < k
        · have hbrI2 : (16300 : Int) < (k : Int) := by omega
          clear hrel2
          go_upto_region 9 with fail
          have hxb9 : ∀ y ∈ x4 ++ b, 0 ≤ y ∧ y < 256 := (fun y hy => by
            rcases List.mem_append.1 hy with h | h
            · exact hxb4 y h
            · exact hby y h)
          have hR9 := (R.keep (w' := w4) (fun p hp => hb4.cell (by omega)))
          have hb09 := hb4.size
          go_wp2_with (at_builtin; (refine wpList_app .u8 w.heap.size 5 i0 1 rfl (.tmp 47) (.tmp 48) _ rfl Try.underlying22 Hi.out Hz0.out Hz1.out Hz2.out rfl hown4 rfl hR9 (by omega) (by omega) hb09 ?_); intro A9 d9 w9 ho9 hg9 hat9)
          have hb9 : Below w.heap.size w w9 := hb4.grown hg9 hb09 fun q hq => (hown4.2.lt hq).1
          obtain ⟨Y, hY⟩ : ∃ Y, x4 ++ b = Y := ⟨_, rfl⟩
          rw [hY] at ho9 hxb9
          have hYl : Y.length ≤ 110000 := by rw [← ho9.1]; omega
          obtain ⟨n9, hn9⟩ : ∃ n9, n4 + n = n9 := ⟨_, rfl⟩
          rw [hn9] at ho9 ⊢
          have hn9b : n9 ≤ 110000 := by omega
          clear hY hn9 hg9 hat9 hR9
          go_wp2_with fail
          refine (mtok_any level _ hlb ho9.rd (Nat.le_refl _) hxb9 (by omega)).mono ?_
          rintro r w10 ⟨l, st', A10, n10, c10, rfl, hrun, hend, ho10, hb10⟩
          have hbw10 := hb9.trans (hb10.mono hb9.size)
          have hx10 := ho9.keeps hb10
          have hexp := whole_expand hrun hend (by omega)
          have hn10 : n10 ≤ 110000 := by
            have hok : (writeF newF Y).Ok (writeF newF Y).at_ := Ok.new.write Y
            obtain ⟨h5, hD, h6, -⟩ := run_ok hrun hok
            have := h5.hi
            rw [hD] at this
            have h7 : (writeF newF Y).D.length = Y.length := by show ([] ++ Y).length = _; simp
            have h8 : (writeF newF Y).at_ = 0 := rfl
            have := ho10.1
            omega
          go_wp2_with fail
          refine (rexpand_any _ _ _ _ l ho10.rd (by omega)).mono ?_
          rintro r w11 ⟨A11, n11, c11, rfl, ho11, hb11⟩
          rw [hexp] at ho11 ⊢
          dsimp only at ho11 ⊢
          have hbw11 := hbw10.trans (hb11.mono hbw10.size)
          have hx11 := hx10.keeps hb11
          go_wp2_with fail
          refine (answers9_any _).mono ?_
          rintro e w12 ⟨rfl, hb12⟩
          have hbw12 := hbw11.trans (hb12.mono hbw11.size)
          have hx12 := hx11.keeps hb12
          have ho12 := ho11.keeps hb12
          go_wp2_with fail
          refine (same_any _ _ _ _ _ _ _ _ _ _ hx12.rd ho12.rd (by omega) rfl).mono ?_
          rintro e w13 ⟨rfl, q13, rfl⟩
          go_wp2_with fail
          go_ret
          exact ⟨rfl, below_drewN hbw12 q13⟩
        · have hbrI2 : ¬ (16300 : Int) < (k : Int) := by omega
          go_wp2_with fail
          go_roundw
          case rel => exact hrel2
          case measure => simp [intOf]; omega
      · have hbrI : ¬ (33000 : Int) < (n4 : Int) := by omega
        go_wp2_with fail
        go_roundw
        case rel => exact hrel2
        case measure => simp [intOf]; omega
    · have hkI : ¬ (k : Int) < 32700 + (G : Int) := by omega
      have hn1b : n1 ≤ 100000 := by have := hn1'.out; omega
      clear hn1'
      go_upto_region 9 with fail
      have hxb9 : ∀ y ∈ x ++ b, 0 ≤ y ∧ y < 256 := (fun y hy => by
        rcases List.mem_append.1 hy with h | h
        · exact hxb y h
        · exact hby y h)
      have hR9 := (R.keep (w' := wr) (fun p hp => hb.cell (by omega)))
      have hb09 := hb.size
      go_wp2_with (at_builtin; (refine wpList_app .u8 w.heap.size 5 i0 1 rfl (.tmp 47) (.tmp 48) _ rfl Try.underlying22 Hi.out Hz0.out Hz1.out Hz2.out rfl ho rfl hR9 (by omega) (by omega) hb09 ?_); intro A9 d9 w9 ho9 hg9 hat9)
      have hb9 : Below w.heap.size w w9 := hb.grown hg9 hb09 fun q hq => (ho.2.lt hq).1
      obtain ⟨Y, hY⟩ : ∃ Y, x ++ b = Y := ⟨_, rfl⟩
      rw [hY] at ho9 hxb9
      have hYl : Y.length ≤ 110000 := by rw [← ho9.1]; omega
      obtain ⟨n9, hn9⟩ : ∃ n9, n1 + n = n9 := ⟨_, rfl⟩
      rw [hn9] at ho9 ⊢
      have hn9b : n9 ≤ 110000 := by omega
      clear hY hn9 hg9 hat9 hR9
      go_wp2_with fail
      refine (mtok_any level _ hlb ho9.rd (Nat.le_refl _) hxb9 (by omega)).mono ?_
      rintro r w10 ⟨l, st', A10, n10, c10, rfl, hrun, hend, ho10, hb10⟩
      have hbw10 := hb9.trans (hb10.mono hb9.size)
      have hx10 := ho9.keeps hb10
      have hexp := whole_expand hrun hend (by omega)
      have hn10 : n10 ≤ 110000 := by
        have hok : (writeF newF Y).Ok (writeF newF Y).at_ := Ok.new.write Y
        obtain ⟨h5, hD, h6, -⟩ := run_ok hrun hok
        have := h5.hi
        rw [hD] at this
        have h7 : (writeF newF Y).D.length = Y.length := by show ([] ++ Y).length = _; simp
        have h8 : (writeF newF Y).at_ = 0 := rfl
        have := ho10.1
        omega
      go_wp2_with fail
      refine (rexpand_any _ _ _ _ l ho10.rd (by omega)).mono ?_
      rintro r w11 ⟨A11, n11, c11, rfl, ho11, hb11⟩
      rw [hexp] at ho11 ⊢
      dsimp only at ho11 ⊢
      have hbw11 := hbw10.trans (hb11.mono hbw10.size)
      have hx11 := hx10.keeps hb11
      go_wp2_with fail
      refine (answers9_any _).mono ?_
      rintro e w12 ⟨rfl, hb12⟩
      have hbw12 := hbw11.trans (hb12.mono hbw11.size)
      have hx12 := hx11.keeps hb12
      have ho12 := ho11.keeps hb12
      go_wp2_with fail
      refine (same_any _ _ _ _ _ _ _ _ _ _ hx12.rd ho12.rd (by omega) rfl).mono ?_
      rintro e w13 ⟨rfl, q13, rfl⟩
      go_wp2_with fail
      go_ret
      exact ⟨rfl, below_drewN hbw12 q13⟩
end Go.Proofs.Ytlnmicocmbdbdaa
