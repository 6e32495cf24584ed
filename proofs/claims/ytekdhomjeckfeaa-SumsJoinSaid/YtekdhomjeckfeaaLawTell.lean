/-
  The walk of the law SumsTell.
-/
import Derived.Test.YtekdhomjeckfeaaProg
import Derived.Test.YtekdhomjeckfeaaOwn
import Derived.Test.YtekdhomjeckfeaaLawTable
import Derived.Test.YtekdhomjeckfeaaTellP
namespace Go.Proofs.Ytekdhomjeckfeaa
open Go.RowKit
set_option linter.unusedVariables false

theorem byte_info : (Try.prog.info? 5).map (fun i => (i.zero, i.size, i.bytes)) = some (some (.int .u8 0), 1, 1) := by kernel_rfl
/-- A store into a row of numbers. -/
theorem OwnI.put {k : IntKind} {w : World} {b0 : Nat} {e : TypeId} {g n c : Nat} {l : List Int} (h : OwnI k w b0 e (some ⟨g, 0, none⟩) n c l) {i : Nat} (hi : i < n) (a : Int) : OwnI k (w.setCell ⟨g, i, none⟩ (.int k a)) b0 e (some ⟨g, 0, none⟩) n c (l.set i a) := by
  refine ⟨by simpa using h.1, (h.2.set_ (by simpa using hi) _).congr fun j _ => ?_⟩
  rw [ix_set' l (by rw [← h.1]; exact hi)]
  unfold upd
  split <;> rfl

set_option maxRecDepth 100000 in
set_option maxHeartbeats 4000000 in
theorem sumsTell_walk (A : Option Addr) (n c : Nat) (l : List Int) (at_ bend shift : Int) (w : World) (hr : RdI .u8 w w.heap.size A n l) (hn0 : n ≤ maxLen) (hwf : ∀ x ∈ l, (Lit.int .u8 x).wf = true)
    (ha0 : (Lit.int .u16 at_).wf = true) (hb0 : (Lit.int .u32 bend).wf = true) (hs0 : (Lit.int .u8 shift).wf = true) :
    Calls Try.prog 5 #[.slice A n c, .int .u16 at_, .int .u32 bend, .int .u8 shift] w fun e w' => e = .returned (.bool true) ∧ Below w.heap.size w w' := by
  have hnI : (n : Int) ≤ 9223372036854775807 := by unfold maxLen at hn0; omega
  have hab : 0 ≤ at_ ∧ at_ ≤ 65535 := by simpa [Lit.wf, IntKind.min, IntKind.max, IntKind.signed, IntKind.bits] using ha0
  have hsb : 0 ≤ shift ∧ shift ≤ 255 := by simpa [Lit.wf, IntKind.min, IntKind.max, IntKind.signed, IntKind.bits] using hs0
  have hbb := bd_u32 hb0
  have HL := Lib.hid (bd_of (bd_wf hwf))
  obtain ⟨i0, hi, hz0, hz1, hz2⟩ := info_parts byte_info
  have Hi := Lib.hid hi
  have Hz0 := Lib.hid hz0
  have Hz1 := Lib.hid hz1
  have Hz2 := Lib.hid hz2
  have hnl := Lib.hid hr.1
  clear hi hz0 hz1 hz2 hn0 hwf ha0 hb0 hs0
  by_cases h1 : (5000 : Int) < n
  · go_enter Try.func5, Try.ntmps5
    go_wp2_with fail
    refine (sanswers_any _).mono ?_
    rintro e w1 ⟨rfl, hb⟩
    go_wp2
    go_ret
    exact ⟨rfl, hb⟩
  by_cases h2 : (n : Int) < 5
  · go_enter Try.func5, Try.ntmps5
    go_wp2_with fail
    refine (sanswers_any _).mono ?_
    rintro e w1 ⟨rfl, hb⟩
    go_wp2
    go_ret
    exact ⟨rfl, hb⟩
  by_cases h3 : bend = 0
  · subst h3
    go_enter Try.func5, Try.ntmps5
    go_wp2_with fail
    refine (sanswers_any _).mono ?_
    rintro e w1 ⟨rfl, hb⟩
    go_wp2
    go_ret
    exact ⟨rfl, hb⟩
  have t3 : (bend == 0) = false := by simpa using h3
  have hn5 : 5 ≤ (n : Int) := by omega
  obtain ⟨k, hk⟩ : ∃ k : Nat, (k : Int) = at_ % ((n : Int) - 4) := ⟨(at_ % ((n : Int) - 4)).toNat, by have := Int.emod_nonneg at_ (show (n : Int) - 4 ≠ 0 by omega); omega⟩
  have hkn : (k : Int) + 5 ≤ n := by have := Int.emod_lt_of_pos at_ (show (0 : Int) < (n : Int) - 4 by omega); omega
  have hkr := hk.symm
  clear hk
  have H3 := Lib.hid h3
  clear h3
  obtain ⟨q, hq⟩ : ∃ q : Nat, q = (shift % 8).toNat := ⟨_, rfl⟩
  have hq8 : q < 8 := by omega
  have hpow : (2 : Int) ^ q ≤ 128 := by
    have h1 : 2 ^ q ≤ 2 ^ 7 := Nat.pow_le_pow_right (by omega) (by omega)
    have h2 : ((2 ^ q : Nat) : Int) ≤ ((2 ^ 7 : Nat) : Int) := Int.ofNat_le.2 h1
    simpa using h2
  have hX0 : 0 ≤ bend * 2 ^ q := Int.mul_nonneg hbb.1 (Int.le_of_lt (Int.pow_pos (by omega)))
  have hX1 : bend * 2 ^ q < 1099511627776 := by
    calc bend * 2 ^ q ≤ bend * 128 := Int.mul_le_mul_of_nonneg_left hpow hbb.1
      _ < 1099511627776 := by omega
  obtain ⟨X, hX⟩ : ∃ X : Int, bend * 2 ^ q = X := ⟨_, rfl⟩
  rw [hX] at hX0 hX1
  have HX := Lib.hid (show bend * 2 ^ (shift % 8).toNat = X by rw [← hq]; exact hX)
  have hXe : IntKind.u64.wrap (bend * 2 ^ (shift % 8).toNat) = X := by rw [HX.out]; exact IntWalk.u64_in _ (by omega)
  have HT : Hid (crTo (cmpI 0) l n ≠ crTo (cmpI 0) (teL l k X 5) n) := by
    have := tell_crc (l := l) (k := k) (B := bend) (s := shift % 8) (x := cmpI 0) HL.out H3.out hbb (by omega) (cmpI_bd (by omega)) (by rw [← hnl.out]; omega)
    rw [HX.out, ← hnl.out] at this
    exact this
  clear hX hq hpow
  have hk1 : OwnI .u8 (w.alloc (.cells #[] 5)) w.heap.size 5 (some ⟨w.heap.size, 0, none⟩) 0 0 [] := OwnI.lit rfl [] _ (Nat.le_refl _) (by simp)
  go_enter Try.func5, Try.ntmps5
  go_wp2_with (at_builtin; (refine wpList_app .u8 w.heap.size 5 i0 1 rfl (.tmp 32) (.tmp 33) _ rfl Try.underlying23 Hi.out Hz0.out Hz1.out Hz2.out rfl hk1 rfl (hr.alloc (Nat.le_refl _) _) (by omega) (by omega) (by simp) ?_); intro A2 c2 w2 hown hg hat)
  have hb2 : Below w.heap.size w w2 := below_grown (b0 := w.heap.size) ((Below.refl _ _).alloc (Nat.le_refl _) _) hg (by simp) (by simp [blkOf])
  rw [Nat.zero_add, List.nil_append] at hown
  obtain ⟨g, rfl⟩ := hown.2.addr (by omega)
  have hgb := (hown.2.lt (g := g) rfl).1
  clear hg hat hk1
  go_loopw [12] (fun i wr => ∃ j : Nat, j ≤ 5 ∧ i = .int .i64 j ∧ OwnI .u8 wr w.heap.size 5 (some ⟨g, 0, none⟩) n c2 (teL l k X j) ∧ Below w.heap.size w wr) (fun i _ => 5 - (intOf i).toNat)
  case atStart => exact ⟨0, by omega, rfl, hown, hb2⟩
  case round =>
    obtain ⟨j, hj, rfl, hown, hb2⟩ := hrel
    by_cases hj5 : j < 5
    · have hkj : k + j < n := by omega
      have c1 := hown.2.cell (i := k + j) (by simpa using hkj)
      have z1 := hown.2.frozen (k + j)
      have e1 : ix (teL l k X j) (k + j) = ix l (k + j) := by rw [ix_teL l k X j (by rw [← hnl.out]; omega), if_neg (by omega)]
      rw [e1] at c1
      clear e1
      have hcb := HL.out (k + j)
      have hset := hown.put hkj (xorI (ix l (k + j)) (X / 2 ^ (8 * j) % 256))
      have hd : 0 ≤ X / 2 ^ (8 * j) % 256 ∧ X / 2 ^ (8 * j) % 256 < 256 := ⟨Int.emod_nonneg _ (by omega), Int.emod_lt_of_pos _ (by omega)⟩
      obtain ⟨b, hb⟩ : ∃ b : Int, ix l (k + j) = b := ⟨_, rfl⟩
      rw [hb] at c1 hcb hset
      have hx8 := xor8 hcb hd
      have hw8 : IntKind.u8.wrap (X / 2 ^ (8 * j)) = X / 2 ^ (8 * j) % 256 := by rw [IntKind.wrap_u8]
      have hset' : OwnI .u8 (wr.setCell ⟨g, k + j, none⟩ (.int .u8 (xorI b (X / 2 ^ (8 * j) % 256)))) w.heap.size 5 (some ⟨g, 0, none⟩) n c2 (teL l k X (j + 1)) := by
        show OwnI _ _ _ _ _ _ _ ((teL l k X j).set (k + j) (xorI (ix l (k + j)) (X / 2 ^ (8 * j) % 256)))
        rw [hb]; exact hset
      obtain ⟨D, hD⟩ : ∃ D : Int, X / 2 ^ (8 * j) % 256 = D := ⟨_, rfl⟩
      rw [hD] at hx8 hw8 hset' hd
      obtain ⟨E, hE⟩ : ∃ E : Int, xorI b D = E := ⟨_, rfl⟩
      rw [hE] at hx8 hset'
      clear hD hE hset hb
      have hkj0 : (0 : Int) ≤ (k : Int) + j ∧ (k : Int) + j < n := by omega
      go_wp2
      go_roundw
      case rel => exact ⟨j + 1, by omega, by go_num, hset', hb2.setCell (p := ⟨g, k + j, none⟩) hgb _⟩
      case measure => simp [intOf]; omega
    · obtain rfl : 5 = j := by omega
      have hr5 := hr.below hb2
      have hc5 := hown.rd
      go_wp2_with fail
      refine (sanswers_any _).mono ?_
      rintro e w3 ⟨rfl, hb3⟩
      have hb4 := hb2.trans (hb3.mono hb2.size)
      have hr6 := hr.below hb4
      have hc6 := hc5.below hb3
      clear hown hr5 hc5
      go_wp2_with fail
      refine (crc_any 0 _ _ _ _ _ _ hr6 hb4.size HL.out (by omega) (by omega)).mono ?_
      rintro e w4 ⟨rfl, hb5⟩
      have hc7 := (hc6.more hb3.size).below hb5
      have hb6 := hb4.trans (hb5.mono hb4.size)
      go_wp2_with fail
      refine (crc_any 0 _ _ _ _ _ _ hc7 hb5.size (teL_bd HL.out 5 (by rw [← hnl.out]; omega)) (by omega) (by omega)).mono ?_
      rintro e w5 ⟨rfl, hb7⟩
      have hb8 := hb6.trans (hb7.mono hb6.size)
      have hne : (cmpI (crTo (cmpI 0) l n) != cmpI (crTo (cmpI 0) (teL l k X 5) n)) = true := by
        rw [bne_iff_ne]
        intro h
        have h1 := crTo_bd (cmpI_bd (s := 0) (by omega)) HL.out n
        have h2 := crTo_bd (cmpI_bd (s := 0) (by omega)) (teL_bd (k := k) (X := X) HL.out 5 (by rw [← hnl.out]; omega)) n
        exact HT.out (by rw [← cmp_cmp h1, h, cmp_cmp h2])
      obtain ⟨P, hP⟩ : ∃ P : Int, cmpI (crTo (cmpI 0) l n) = P := ⟨_, rfl⟩
      obtain ⟨R, hR⟩ : ∃ R : Int, cmpI (crTo (cmpI 0) (teL l k X 5) n) = R := ⟨_, rfl⟩
      rw [hP, hR] at hne ⊢
      clear hP hR
      go_wp2
      go_ret
      exact ⟨rfl, hb8⟩
end Go.Proofs.Ytekdhomjeckfeaa
