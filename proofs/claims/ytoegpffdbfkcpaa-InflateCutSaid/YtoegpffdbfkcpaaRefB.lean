/-
  The walks of the reference's Even, Bits, Number, Bytes.
-/
import Derived.Test.YtoegpffdbfkcpaaProg
import Derived.Test.YtoegpffdbfkcpaaPk
namespace Go.Proofs.Ytoegpffdbfkcpaa
open Go.RowKit
set_option linter.unusedVariables false

theorem fbyte_info : (Try.prog.info? 5).map (fun i => (i.zero, i.size, i.bytes)) = some (some (.int .u8 0), 1, 1) := by kernel_rfl
/-- a new slice that reads as L; all else as it was -/
def MkPost (w : World) (L : List Int) (e : Ending) (w' : World) : Prop :=
  ∃ A n c, e = .returned (.slice A n c) ∧ OwnI .u8 w' w.heap.size 5 A n c L ∧ Below w.heap.size w w'

def EvenRel (w : World) (L : List Int) (g : Nat) (o : Value) (wr : World) : Prop :=
  ∃ (m d : Nat) (A : Option Addr) (z : Nat), Hid (m = L.length + z) ∧ Hid (g + z = (8 - L.length % 8) % 8) ∧ o = .slice A m d ∧ OwnI .u8 wr w.heap.size 5 A m d (L ++ List.replicate z 0) ∧ Below w.heap.size w wr
set_option maxHeartbeats 1600000 in
theorem even_any (w : World) (B n c : Nat) (A : Option Addr) (L : List Int) (hr : RdI .u8 w B A n L) (hB : B ≤ w.heap.size) (hn : n ≤ 100000000000) : Calls Try.prog 18 #[.slice A n c] w (MkPost w (evn L)) := by
  obtain ⟨i0, hi, hz0, hz1, hz2⟩ := info_parts fbyte_info
  have Hi := Lib.hid hi
  have Hz0 := Lib.hid hz0
  have Hz1 := Lib.hid hz1
  have Hz2 := Lib.hid hz2
  clear hi hz0 hz1 hz2
  have hra := hr.alloc hB (.cells #[] 5)
  have HN := Lib.hid hr.1
  go_enter Try.func18, Try.ntmps18
  go_wp2_with (at_builtin; (refine wpList_app .u8 w.heap.size 5 i0 1 rfl (.tmp 4) (.tmp 5) _ rfl Try.underlying22 Hi.out Hz0.out Hz1.out Hz2.out rfl (OwnI.lit rfl [] _ (Nat.le_refl _) (by simp)) rfl hra (by omega) (by omega) (by simp) ?_)
               intro A2 d2 w2 hown hg hat)
  rw [List.nil_append, Nat.zero_add] at hown
  have hb2 : Below w.heap.size w w2 := ((Below.refl _ w).alloc (Nat.le_refl _) _).grown hg (by simp) (by simp [blkOf])
  clear hra hat hg
  go_wp2
  go_loopg [3] ((8 - L.length % 8) % 8) (EvenRel w L)
  case atStart => exact ⟨n, d2, A2, 0, HN.out, rfl, rfl, by rw [List.replicate_zero, List.append_nil]; exact hown, hb2⟩
  case round =>
    obtain ⟨m, d, A3, z, HM, HG, rfl, ho, hb⟩ := hrel
    have hmb : (m : Int) ≤ 200000000000 ∧ (0 : Int) ≤ m := by have := HM.out; have := HG.out; have := HN.out; omega
    by_cases hz : 0 < gk
    · have hm8 : 0 < (m : Int) % 8 := by have := HM.out; have := HG.out; omega
      have hoA := ho.alloc (.cells #[.int .u8 0] 5)
      have hbA := hb.alloc hb.size (.cells #[.int .u8 0] 5)
      go_wp2_with (at_builtin; (refine wpList_app .u8 w.heap.size 5 i0 1 rfl (.tmp 11) (.tmp 12) _ rfl Try.underlying22 Hi.out Hz0.out Hz1.out Hz2.out rfl hoA rfl (RdI.lit .u8 wr [0] 5) (by omega) (by omega) hbA.size ?_)
                   intro A4 d4 w4 hown4 hg4 hat4)
      go_roundg (gk - 1)
      case measure => omega
      case rel => exact ⟨m + 1, d4, A4, z + 1, by have := HM.out; show _ = _; omega, by have := HG.out; show _ = _; omega, rfl, by rw [List.replicate_succ', ← List.append_assoc]; exact hown4, hbA.grown hg4 hbA.size fun q hq => (ho.2.lt hq).1⟩
    · have hm8 : ¬ 0 < (m : Int) % 8 := by have := HM.out; have := HG.out; omega
      have hzz : z = (8 - L.length % 8) % 8 := by have := HG.out; omega
      have HZ := Lib.hid hzz
      clear hzz
      go_wp2
      go_ret
      exact ⟨A3, m, d, rfl, by unfold evn; rw [← HZ.out]; exact ho, hb⟩

def BitsOut (w : World) (b : List Int) (n : Nat) (o i : Value) (wr : World) : Prop :=
  ∃ (k m d : Nat) (A : Option Addr), k ≤ n ∧ i = .int .i64 k ∧ Hid (m = 8 * k) ∧ o = .slice A m d ∧ OwnI .u8 wr w.heap.size 5 A m d (bts (b.take k)) ∧ Below w.heap.size w wr
def BitsIn (w : World) (b : List Int) (k0 : Nat) (o j : Value) (wr : World) : Prop :=
  ∃ (k m d : Nat) (A : Option Addr), k ≤ 8 ∧ j = .int .i64 k ∧ Hid (m = 8 * k0 + k) ∧ o = .slice A m d ∧ OwnI .u8 wr w.heap.size 5 A m d (bts (b.take k0) ++ ofN (ix b k0) k) ∧ Below w.heap.size w wr
set_option maxRecDepth 100000 in
set_option maxHeartbeats 1600000 in
theorem bits_any (w : World) (B n c : Nat) (A : Option Addr) (b : List Int) (hr : RdI .u8 w B A n b) (hB : B ≤ w.heap.size) (hby : ∀ x ∈ b, 0 ≤ x ∧ x < 256) (hn : (n : Int) ≤ 100000000000) : Calls Try.prog 15 #[.slice A n c] w (MkPost w (bts b)) := by
  obtain ⟨i0, hi, hz0, hz1, hz2⟩ := info_parts fbyte_info
  have Hi := Lib.hid hi
  have Hz0 := Lib.hid hz0
  have Hz1 := Lib.hid hz1
  have Hz2 := Lib.hid hz2
  clear hi hz0 hz1 hz2
  have HN := Lib.hid hr.1
  go_enter Try.func15, Try.ntmps15
  go_wp2
  go_loopw [3, 4] (BitsOut w b n) (fun _ i _ => n - (intOf i).toNat)
  case atStart => exact ⟨0, 0, 0, none, Nat.zero_le _, rfl, rfl, rfl, OwnI.nil_, Below.refl _ _⟩
  case round =>
    obtain ⟨k, m, d, A1, hk, rfl, HM, rfl, ho, hb⟩ := hrel
    by_cases hlt : k < n
    · have hkI : (k : Int) < (n : Int) ∧ (0 : Int) ≤ k := by omega
      obtain ⟨wo, hwo⟩ : ∃ wo : World, wo = wr := ⟨_, rfl⟩
      subst hwo
      go_wp2_with fail
      go_loopw [3, 5] (BitsIn w b k) (fun _ j _ => 8 - (intOf j).toNat)
      case atStart => exact ⟨0, m, d, A1, Nat.zero_le _, rfl, HM, rfl, by rw [show ofN (ix b k) 0 = [] from rfl, List.append_nil]; exact ho, hb⟩
      case round =>
        clear ho hb
        obtain ⟨j, m2, d2, A2, hj, rfl, HM2, rfl, ho, hb⟩ := hrel
        by_cases hj8 : j < 8
        · have hjI : (j : Int) < 8 ∧ (0 : Int) ≤ j := by omega
          obtain ⟨ad, rfl, hbl, c1⟩ := hr.at_ hlt
          have c2 := (hb.cell (p := ad.add k) (by rw [addr_block]; omega)).trans c1
          obtain ⟨x, hx⟩ : ∃ x, ix b k = x := ⟨_, rfl⟩
          have hxb := ix_bd hby k
          rw [hx] at c2 hxb ho
          have HS : Hid (ofN x (j + 1) = ofN x j ++ [x / 2 ^ j % 2]) := ofN_succ x j
          have HX := Lib.hid hx
          obtain ⟨y, hy⟩ : ∃ y, x / 2 ^ j % 2 = y := ⟨_, rfl⟩
          have hmb : m2 ≤ 900000000000 := by have := HM2.out; omega
          have e0 : (j : Int) % 18446744073709551616 = (j : Int) := by omega
          have hoA := ho.alloc (.cells #[.int .u8 y] 5)
          have hbA := hb.alloc hb.size (.cells #[.int .u8 y] 5)
          rw [hy] at HS
          have e1 : (x / 2 ^ j).tmod 2 = y := by rw [Int.tmod_eq_emod_of_nonneg (Int.ediv_nonneg hxb.1 (Int.le_of_lt (two_pos j))), hy]
          clear hy
          clear hx c1
          go_wp2_with (at_builtin; (refine wpList_app .u8 w.heap.size 5 i0 1 rfl (.tmp 16) (.tmp 25) _ rfl Try.underlying22 Hi.out Hz0.out Hz1.out Hz2.out rfl hoA rfl (RdI.lit .u8 wr [y] 5) (by omega) (by omega) hbA.size ?_)
                       intro A4 d4 w4 hown4 hg4 hat4)
          go_roundw
          case rel => exact ⟨j + 1, m2 + 1, d4, A4, hj8, by go_num, by have := HM2.out; show _ = _; omega, rfl, by rw [HX.out, HS.out, ← List.append_assoc]; exact hown4, hbA.grown hg4 hbA.size fun q hq => (ho.2.lt hq).1⟩
          case measure => simp [intOf]; omega
        · obtain rfl : j = 8 := by omega
          have HE : Hid (bts (b.take (k + 1)) = bts (b.take k) ++ ofN (ix b k) 8) := by
            show _ = _
            have hkl : k < b.length := by rw [← HN.out]; exact hlt
            rw [List.take_succ_eq_append_getElem hkl, bts_append]
            congr 1
            simp [bts, ix, hkl]
          go_wp2
          go_roundw
          case rel => exact ⟨k + 1, m2, d2, A2, hlt, by go_num, by have := HM2.out; show _ = _; omega, rfl, by rw [HE.out]; exact ho, hb⟩
          case measure => simp [intOf]; omega
    · obtain rfl : n = k := by omega
      have HE : Hid (b.take n = b) := by show _ = _; rw [HN.out, List.take_length]
      go_wp2
      go_ret
      exact ⟨A1, m, d, rfl, by rw [HE.out] at ho; exact ho, hb⟩

def NumRel (l : List Int) (n : Nat) (x i : Value) : Prop := ∃ (k : Nat) (v : Int), k ≤ n ∧ i = .int .i64 ((k : Int) - 1) ∧ x = .int .i64 v ∧ Hid (v = numI (l.drop k))
set_option maxHeartbeats 1600000 in
theorem number_any (w : World) (B n c : Nat) (A : Option Addr) (l : List Int) (hr : RdI .u8 w B A n l) (hb : Bit l) (hn : (n : Int) ≤ 32) : Calls Try.prog 33 #[.slice A n c] w fun e w' => e = .returned (.int .i64 (numI l)) ∧ w = w' := by
  have HN := Lib.hid hr.1
  go_enter Try.func33, Try.ntmps33
  go_wp2
  go_loop [3, 4] (NumRel l n) (fun _ i => (intOf i + 1).toNat)
  case atStart => exact ⟨n, 0, Nat.le_refl _, rfl, rfl, by show _ = _; rw [HN.out, List.drop_length]; rfl⟩
  case round =>
    obtain ⟨k, v, hk, rfl, rfl, HV⟩ := hrel
    have hvb := numI_bd (hb.drop_ k)
    have h2 := pow_mono2 (show (l.drop k).length ≤ 32 by simp; have := HN.out; omega)
    have h3 : (2 : Int) ^ 32 = 4294967296 := rfl
    rw [← HV.out] at hvb
    have hvI : 0 ≤ v ∧ v < 4294967296 := by omega
    clear hvb h2 h3
    by_cases hk0 : 0 < k
    · obtain ⟨p, rfl⟩ : ∃ p, k = p + 1 := ⟨k - 1, by omega⟩
      have hp : ((p + 1 : Nat) : Int) - 1 = (p : Int) := by omega
      have hpI : (0 : Int) ≤ p ∧ (p : Int) < (n : Int) := by omega
      obtain ⟨ad, rfl, hbl, c1⟩ := hr.at_ (i := p) (by omega)
      obtain ⟨x, hx⟩ : ∃ x, ix l p = x := ⟨_, rfl⟩
      have hxb : 0 ≤ x ∧ x ≤ 1 := by
        rw [← hx]; unfold ix; rw [List.getD_eq_getElem?_getD]
        cases h : l[p]? with
        | none => simp
        | some v => have := hb v (List.mem_of_getElem? h); simp; omega
      rw [hx] at c1
      have HX : Hid (numI (l.drop p) = 2 * v + x) := by
        show _ = _
        have hpl : p < l.length := by rw [← HN.out]; omega
        rw [List.drop_eq_getElem_cons hpl, numI, ← HV.out]
        have : l[p] = x := by rw [← hx]; simp [ix, hpl]
        rw [this]; omega
      clear hx
      rw [hp]
      go_wp2
      go_round
      case rel => exact ⟨p, 2 * v + x, by omega, rfl, rfl, by show _ = _; rw [HX.out]⟩
      case measure => simp [intOf]
    · obtain rfl : k = 0 := by omega
      have hm1 : ((0 : Nat) : Int) - 1 = -1 := rfl
      rw [hm1]
      go_wp2
      go_ret
      exact ⟨ret_int (by rw [HV.out, List.drop_zero]), rfl⟩

def BytesRel (w : World) (L : List Int) (n : Nat) (o i : Value) (wr : World) : Prop :=
  ∃ (k d : Nat) (A : Option Addr), k ≤ n / 8 ∧ i = .int .i64 ((8 * k : Nat) : Int) ∧ o = .slice A k d ∧ OwnI .u8 wr w.heap.size 5 A k d (byt (L.take (8 * k))) ∧ Below w.heap.size w wr
set_option maxHeartbeats 1600000 in
theorem bytes_any (w : World) (B n c : Nat) (A : Option Addr) (L : List Int) (hr : RdI .u8 w B A n L) (hnc : n ≤ c) (hB : B ≤ w.heap.size) (hbit : Bit L) (hn : (n : Int) ≤ 1000000000000) : Calls Try.prog 19 #[.slice A n c] w (MkPost w (byt L)) := by
  obtain ⟨i0, hi, hz0, hz1, hz2⟩ := info_parts fbyte_info
  have Hi := Lib.hid hi
  have Hz0 := Lib.hid hz0
  have Hz1 := Lib.hid hz1
  have Hz2 := Lib.hid hz2
  clear hi hz0 hz1 hz2
  have HN := Lib.hid hr.1
  go_enter Try.func19, Try.ntmps19
  go_wp2
  go_loopw [3, 4] (BytesRel w L n) (fun _ i _ => n - (intOf i).toNat)
  case atStart => exact ⟨0, 0, none, Nat.zero_le _, rfl, rfl, by rw [Nat.mul_zero, List.take_zero]; exact OwnI.nil_, Below.refl _ _⟩
  case round =>
    obtain ⟨k, d, A1, hk, rfl, rfl, ho, hb⟩ := hrel
    obtain ⟨p, hp⟩ : ∃ p : Nat, 8 * k = p := ⟨_, rfl⟩
    by_cases hlt : k < n / 8
    · have hpn : p + 8 ≤ n := by omega
      have hpI : (0 : Int) ≤ p ∧ (p : Int) + 8 ≤ (n : Int) := by omega
      have hsl := run_slice_mid (P := Try.prog) 22 5 Try.underlying22 Hi.out Hz1.out A n c (a := p) (b := p + 8) (by omega) (by omega)
      rw [Nat.add_sub_cancel_left] at hsl
      have hsl2 : ∀ W, (Instr.slice 22 (.slice A n c) (some (.int .i64 (p : Int))) (some (.int .i64 ((p : Int) + 8))) none).run Try.prog W = .ok (.slice (cutA A c p) 8 (c - p)) W := fun W => by have := hsl W; rwa [Int.natCast_add] at this
      have hrd := ((hr.cutA (j := p) (by omega) hnc).keep (w' := wr) (fun q hq => hb.cell (by omega))).pre (j := 8) (by omega)
      have hnum : Hid (byt (L.take (8 * (k + 1))) = byt (L.take (8 * k)) ++ [numI ((L.drop p).take 8)]) := by
        show _ = _
        rw [byt_at (by rw [← HN.out]; exact hlt) hbit, hp, numI_take (hbit.drop_ p)]
        rfl
      obtain ⟨v, hv⟩ : ∃ v, numI ((L.drop p).take 8) = v := ⟨_, rfl⟩
      have hvb := numI_bd ((hbit.drop_ p).take_ 8)
      have hl8 : ((L.drop p).take 8).length = 8 := by rw [← hrd.1]
      rw [hl8, hv] at hvb
      have hvI : 0 ≤ v ∧ v < 256 := hvb
      rw [hv] at hnum
      have HV := Lib.hid hv
      have HP := Lib.hid hp
      have hoA := ho.alloc (.cells #[.int .u8 v] 5)
      have hbA := hb.alloc hb.size (.cells #[.int .u8 v] 5)
      have hki : k ≤ 1000000000 * 200 := by omega
      rw [hp]
      clear hsl hv hvb hl8 hp
      go_wp2_with (first
        | (at_builtin; (refine wpList_app .u8 w.heap.size 5 i0 1 rfl (.tmp 12) (.tmp 20) _ rfl Try.underlying22 Hi.out Hz0.out Hz1.out Hz2.out rfl hoA rfl (RdI.lit .u8 wr [v] 5) (by omega) (by omega) hbA.size ?_)
           intro A4 d4 w4 hown4 hg4 hat4)
        | (go_at_call 33; refine (number_any _ _ _ _ _ _ hrd ((hbit.drop_ p).take_ 8) (by omega)).mono ?_; rintro e w5 ⟨rfl, rfl⟩; rw [HV.out]))
      go_roundw
      case rel => exact ⟨k + 1, d4, A4, hlt, by rw [show 8 * (k + 1) = 8 * k + 8 by omega, HP.out]; go_num, rfl, by rw [hnum.out]; exact hown4, hbA.grown hg4 hbA.size fun q hq => (ho.2.lt hq).1⟩
      case measure => simp [intOf]; omega
    · obtain rfl : k = n / 8 := by omega
      have hpI : ¬ (p : Int) + 8 ≤ (n : Int) ∧ (0 : Int) ≤ p ∧ (p : Int) ≤ (n : Int) := by omega
      have HE : Hid (byt (L.take (8 * (n / 8))) = byt L) := by show _ = _; rw [HN.out]; exact byt_take L
      have HP := Lib.hid hp
      rw [hp]
      clear hp
      go_wp2
      go_ret
      exact ⟨A1, n / 8, d, rfl, by rw [HE.out] at ho; exact ho, hb⟩
end Go.Proofs.Ytoegpffdbfkcpaa
