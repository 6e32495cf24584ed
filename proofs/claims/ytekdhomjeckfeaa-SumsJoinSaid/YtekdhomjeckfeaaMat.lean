/-
  The walks of times, twice, JoinCRC and JoinAdler.
-/
import Derived.Test.YtekdhomjeckfeaaProg
import Derived.Test.YtekdhomjeckfeaaLawTable
import Derived.Test.YtekdhomjeckfeaaJoinP
namespace Go.Proofs.Ytekdhomjeckfeaa
open Go.RowKit
set_option linter.unusedVariables false

def matV (p i : Nat) : Value := .int .u32 (stpKI p ((2 ^ i : Nat) : Int))
/-- block g is the matrix of p steps -/
def Mat (w : World) (g p : Nat) : Prop := Ar w g 32 (matV p)
theorem pow_bd {i : Nat} (h : i < 32) : 0 ≤ ((2 ^ i : Nat) : Int) ∧ ((2 ^ i : Nat) : Int) < 4294967296 := by
  have h1 : 2 ^ i ≤ 2 ^ 31 := Nat.pow_le_pow_right (by omega) (by omega)
  obtain ⟨P, hP⟩ : ∃ P, P = 2 ^ i := ⟨_, rfl⟩
  rw [← hP] at h1 ⊢
  omega
theorem matV_bd (p : Nat) {i : Nat} (h : i < 32) : 0 ≤ stpKI p ((2 ^ i : Nat) : Int) ∧ stpKI p ((2 ^ i : Nat) : Int) < 4294967296 := stpKI_bd p (pow_bd h)
/-- the product with the lowest i bits of x -/
def partM (p : Nat) (x : Int) (i : Nat) : Int := (stpN p (x.toNat % 2 ^ i) : Nat)
theorem partM_odd {p i : Nat} {x : Int} (hx : 0 ≤ x) (ho : x / 2 ^ i % 2 = 1) : xorI (partM p x i) (stpKI p ((2 ^ i : Nat) : Int)) = partM p x (i + 1) := by
  unfold xorI partM stpKI
  simp only [Int.toNat_natCast]
  rw [← stpN_xor]
  congr 2
  have e : x.toNat / 2 ^ i % 2 = 1 := by
    have : ((x.toNat / 2 ^ i % 2 : Nat) : Int) = x / 2 ^ i % 2 := by
      rw [Int.natCast_emod, Int.natCast_ediv, Int.toNat_of_nonneg hx]; simp
    omega
  rw [Nat.pow_succ, Nat.mod_mul, e, Nat.mul_one]
  have := xor_cat (a := x.toNat % 2 ^ i) (b := 1) (i := i) (Nat.mod_lt _ (Nat.two_pow_pos _))
  rw [Nat.mul_one] at this
  exact this.symm
theorem partM_even {p i : Nat} {x : Int} (hx : 0 ≤ x) (ho : ¬ x / 2 ^ i % 2 = 1) : partM p x i = partM p x (i + 1) := by
  unfold partM
  congr 2
  have e : x.toNat / 2 ^ i % 2 = 0 := by
    have : ((x.toNat / 2 ^ i % 2 : Nat) : Int) = x / 2 ^ i % 2 := by
      rw [Int.natCast_emod, Int.natCast_ediv, Int.toNat_of_nonneg hx]; simp
    omega
  rw [Nat.pow_succ, Nat.mod_mul, e, Nat.mul_zero, Nat.add_zero]
theorem partM_end {p i : Nat} {x : Int} (hx : 0 ≤ x) (h0 : x / 2 ^ i = 0) : partM p x i = stpKI p x := by
  unfold partM stpKI
  have : x.toNat / 2 ^ i = 0 := by
    have : ((x.toNat / 2 ^ i : Nat) : Int) = x / 2 ^ i := by
      rw [Int.natCast_ediv, Int.toNat_of_nonneg hx]; simp
    omega
  have h1 := Nat.div_add_mod x.toNat (2 ^ i)
  rw [this, Nat.mul_zero, Nat.zero_add] at h1
  rw [h1]
theorem partM_bd (p : Nat) {x : Int} (hx : 0 ≤ x ∧ x < 4294967296) (i : Nat) : 0 ≤ partM p x i ∧ partM p x i < 4294967296 := by
  unfold partM
  have h1 : x.toNat % 2 ^ i ≤ x.toNat := Nat.mod_le _ _
  have := stpN_lt (x := x.toNat % 2 ^ i) (by omega) p
  omega
theorem half_step (x : Int) (i : Nat) : x / 2 ^ i / 2 = x / 2 ^ (i + 1) := by
  have h : (0 : Int) < 2 ^ i := Int.pow_pos (by omega)
  rw [Int.pow_succ, Int.ediv_ediv, if_neg (fun hh => absurd hh.1 (by omega)), Int.sub_zero]

set_option maxHeartbeats 1000000 in
theorem times_any (g p : Nat) (x : Int) (w : World) (hm : Mat w g p) (hx : 0 ≤ x ∧ x < 4294967296) :
    Calls Try.prog 19 #[.pointer (some ⟨g, 0, none⟩), .int .u32 x] w fun e w' => e = .returned (.int .u32 (stpKI p x)) ∧ w = w' := by
  go_enter Try.func19, Try.ntmps19
  go_wp2
  go_loop [1, 5, 6] (fun y o i => ∃ (k : Nat) (v u : Int), k ≤ 32 ∧ i = .int .i64 k ∧ y = .int .u32 v ∧ o = .int .u32 u ∧ 0 ≤ v ∧ v < 4294967296 ∧ 0 ≤ u ∧ u < 4294967296 ∧ Hid (v = x / 2 ^ k) ∧ Hid (u = partM p x k)) (fun y _ _ => (intOf y).toNat)
  case atStart => exact ⟨0, x, 0, by omega, rfl, rfl, rfl, hx.1, hx.2, by omega, by omega, by show x = x / 2 ^ 0; simp, by show _ = _; unfold partM; simp [Nat.mod_one, stpN_zero_arg]⟩
  case round =>
    obtain ⟨k, v, u, hk, rfl, rfl, rfl, hv0, hv1, hu0, hu1, HV, HU⟩ := hrel
    by_cases hv : v = 0
    · subst hv
      have H := Lib.hid (partM_end (p := p) (i := k) hx.1 HV.out.symm)
      go_wp2
      go_ret
      exact ⟨ret_int (by rw [HU.out, H.out]), rfl⟩
    · have hk32 : k < 32 := by
        rcases Nat.lt_or_ge k 32 with h | h
        · exact h
        · exfalso
          apply hv
          rw [HV.out]
          have h1 : (2 : Nat) ^ 32 ≤ 2 ^ k := Nat.pow_le_pow_right (by omega) h
          have h2 : ((2 ^ k : Nat) : Int) = 2 ^ k := by simp
          apply Int.ediv_eq_zero_of_lt hx.1
          rw [← h2]
          have h3 : ((2 ^ 32 : Nat) : Int) ≤ ((2 ^ k : Nat) : Int) := Int.ofNat_le.2 h1
          exact Int.lt_of_lt_of_le hx.2 h3
      have hvb : (v == 0) = false := by simpa using hv
      have hvn : (v != 0) = true := by simpa using hv
      have ha := and_one ⟨hv0, hv1⟩
      have hh := half_step x k
      rw [← HV.out] at hh
      have HH := Lib.hid hh
      have hv2 : 0 ≤ v / 2 ∧ v / 2 < 4294967296 ∧ (v / 2).toNat < v.toNat := by omega
      clear hh
      by_cases ho : v % 2 = 1
      · have t : (bits .and .u32 v 1 != 0) = true := by rw [ha, ho]; rfl
        have c1 := hm.cell hk32
        have mb := matV_bd p hk32
        have hpo := partM_odd (p := p) (i := k) hx.1 (by rw [← HV.out]; exact ho)
        obtain ⟨T, hT⟩ : ∃ T : Int, stpKI p ((2 ^ k : Nat) : Int) = T := ⟨_, rfl⟩
        have c2 : w.cell? ⟨g, k, none⟩ = some (.int .u32 T) := by rw [c1]; unfold matV; rw [hT]
        rw [hT] at mb hpo
        rw [← HU.out] at hpo
        have hxx := xor32 ⟨hu0, hu1⟩ mb
        rw [hpo] at hxx
        have hpb := partM_bd p hx (k + 1)
        have hk0 : (0 : Int) ≤ k ∧ (k : Int) < 32 := by omega
        clear ha hT hpo c1 hv
        go_wp2
        go_round
        case rel => exact ⟨k + 1, v / 2, _, by omega, by go_num, rfl, rfl, hv2.1, hv2.2.1, hpb.1, hpb.2, HH.out, rfl⟩
        case measure => simp [intOf]; omega
      · have t : (bits .and .u32 v 1 != 0) = false := by rw [ha, show v % 2 = 0 by omega]; rfl
        have hpe := Lib.hid (partM_even (p := p) (i := k) hx.1 (by rw [← HV.out]; exact ho))
        clear ha hv
        go_wp2
        go_round
        case rel => exact ⟨k + 1, v / 2, _, by omega, by go_num, rfl, rfl, hv2.1, hv2.2.1, hu0, hu1, HH.out, by show u = _; rw [HU.out, hpe.out]⟩
        case measure => simp [intOf]; omega

theorem zero32 (W : World) : (zeroValue 40).run Try.prog W = .ok (.agg (zrow 32 (.int .u32 0))) W := by kernel_rfl
theorem stpKI_stpKI (p q : Nat) (x : Int) : stpKI p (stpKI q x) = stpKI (p + q) x := by
  unfold stpKI
  rw [Int.toNat_natCast, stpN_add]
def outM (p k i : Nat) : Value := if i < k then matV p i else .int .u32 0
theorem outM_hit (p k j : Nat) : upd (outM p k) k (matV p k) j = outM p (k + 1) j := by
  by_cases hj : j = k
  · subst hj; rw [upd_same]; unfold outM; rw [if_pos (by omega)]
  · rw [upd_other _ _ hj]; unfold outM
    by_cases h : j < k
    · rw [if_pos h, if_pos (by omega)]
    · rw [if_neg h, if_neg (by omega)]

set_option maxHeartbeats 1000000 in
theorem twice_any (g p : Nat) (w : World) (hm : Mat w g p) :
    Calls Try.prog 18 #[.pointer (some ⟨g, 0, none⟩)] w fun e w' => ∃ g', e = .returned (.pointer (some ⟨g', 0, none⟩)) ∧ w.heap.size ≤ g' ∧ Mat w' g' (p + p) ∧ Below w.heap.size w w' := by
  have hz := zero32
  go_enter Try.func18, Try.ntmps18
  go_wp2
  clear hz
  have o1 : Ar (w.alloc (.cells (zrow 32 (.int .u32 0)) 40)) w.heap.size 32 (outM (p + p) 0) := (Ar.zeros' 32 (.int .u32 0) 40 rfl).congr fun j _ => by unfold outM; rw [if_neg (Nat.not_lt_zero _)]
  have hb : Below w.heap.size w (w.alloc (.cells (zrow 32 (.int .u32 0)) 40)) := (Below.refl _ _).alloc (Nat.le_refl _) _
  obtain ⟨w1, hw1⟩ : ∃ w1 : World, w1 = w.alloc (.cells (zrow 32 (.int .u32 0)) 40) := ⟨_, rfl⟩
  rw [← hw1] at o1 hb ⊢
  clear hw1
  have hgl := Ar.lt hm
  go_loopw [7] (fun i wr => ∃ k : Nat, k ≤ 32 ∧ i = .int .i64 k ∧ Ar wr w.heap.size 32 (outM (p + p) k) ∧ Below w.heap.size w wr) (fun i _ => 32 - (intOf i).toNat)
  case atStart => exact ⟨0, by omega, rfl, o1, hb⟩
  case round =>
    obtain ⟨k, hk, rfl, o1, hb⟩ := hrel
    by_cases hlt : k < 32
    · have hm2 : Mat wr g p := Ar.below hm hb hgl
      have c1 := hm2.cell hlt
      have mb := matV_bd p hlt
      have z2 := o1.frozen' hlt
      have c3 := o1.cell hlt
      obtain ⟨T, hT⟩ : ∃ T : Int, stpKI p ((2 ^ k : Nat) : Int) = T := ⟨_, rfl⟩
      have c2 : wr.cell? ⟨g, k, none⟩ = some (.int .u32 T) := by rw [c1]; unfold matV; rw [hT]
      rw [hT] at mb
      have HE : Hid (Value.int .u32 (stpKI p T) = matV (p + p) k) := by show _ = _; unfold matV; rw [← hT, stpKI_stpKI]
      have hk0 : (0 : Int) ≤ k ∧ (k : Int) < 32 := by omega
      clear hT c1
      obtain ⟨V, hV⟩ : ∃ V : Int, stpKI p T = V := ⟨_, rfl⟩
      rw [hV] at HE
      have HVV := Lib.hid hV
      clear hV
      go_wp2
      go_quiet (fail)
      go_wp2_with fail
      refine (times_any g p T _ (Ar.drewN hm2 _) mb).mono ?_
      rintro e w' ⟨rfl, rfl⟩
      rw [HVV.out]
      go_wp2
      go_roundw
      case rel => exact ⟨k + 1, by omega, by go_num, ((o1.drewN _).set_ hlt _).congr fun j _ => by rw [HE.out]; exact outM_hit (p + p) k j, (below_drewN hb _).setCell (Nat.le_refl _) _⟩
      case measure => simp [intOf]; omega
    · obtain rfl : 32 = k := by omega
      go_wp2
      go_ret
      exact ⟨_, rfl, Nat.le_refl _, o1.congr fun i hi => by unfold outM; rw [if_pos hi], hb⟩

theorem ofInt64 (a : Nat) (ha : a < 9223372036854775808) : (BitVec.ofInt 64 (a : Int)).toNat = a := by
  rw [BitVec.ofInt_natCast, BitVec.toNat_ofNat]; exact Nat.mod_eq_of_lt (by omega)
theorem and_one64 (m : Nat) (hm : m < 9223372036854775808) : bits .and .i64 (m : Int) 1 = ((m % 2 : Nat) : Int) := by
  show IntKind.i64.wrap ((BitVec.ofInt 64 (m : Int) &&& BitVec.ofInt 64 ((1 : Nat) : Int)).toNat : Int) = _
  rw [BitVec.toNat_and, ofInt64 m hm, ofInt64 1 (by omega), Nat.and_one_is_mod]
  exact IntWalk.i64_in _ (by omega)
theorem mod_next (n j : Nat) : n % 2 ^ (j + 1) = n % 2 ^ j + 2 ^ j * (n / 2 ^ j % 2) := by rw [Nat.pow_succ, Nat.mod_mul]
theorem div_next (n j : Nat) : n / 2 ^ j / 2 = n / 2 ^ (j + 1) := by rw [Nat.pow_succ, Nat.div_div_eq_div_mul]
theorem join_odd {n j : Nat} {a : Int} (h : n / 2 ^ j % 2 = 1) : stpKI (8 * 2 ^ j) (stpKI (8 * (n % 2 ^ j)) a) = stpKI (8 * (n % 2 ^ (j + 1))) a := by
  rw [stpKI_stpKI, mod_next, h, Nat.mul_one, Nat.mul_add, Nat.add_comm]
theorem join_even {n j : Nat} {a : Int} (h : n / 2 ^ j % 2 = 0) : stpKI (8 * (n % 2 ^ j)) a = stpKI (8 * (n % 2 ^ (j + 1))) a := by
  rw [mod_next, h, Nat.mul_zero, Nat.add_zero]

theorem one_shl {k : Nat} (h : k < 32) : IntKind.u32.wrap (2 ^ k) = ((2 ^ k : Nat) : Int) := by
  have := pow_bd h
  have e : (2 : Int) ^ k = ((2 ^ k : Nat) : Int) := by simp
  rw [e]
  exact IntWalk.u32_in _ (by omega)

set_option maxHeartbeats 2000000 in
theorem joinCRC_any (a b : Int) (n : Nat) (w : World) (ha : 0 ≤ a ∧ a < 4294967296) (hb0 : 0 ≤ b ∧ b < 4294967296) (hn : (n : Int) ≤ 1000000) :
    Calls Try.prog 13 #[.int .u32 a, .int .u32 b, .int .i64 n] w fun e w' => e = .returned (.int .u32 (joinC a b n)) ∧ Below w.heap.size w w' := by
  have hz := zero32
  go_enter Try.func13, Try.ntmps13
  go_wp2
  clear hz
  have o1 : Ar (w.alloc (.cells (zrow 32 (.int .u32 0)) 40)) w.heap.size 32 (outM 1 0) := (Ar.zeros' 32 (.int .u32 0) 40 rfl).congr fun j _ => by unfold outM; rw [if_neg (Nat.not_lt_zero _)]
  have hb : Below w.heap.size w (w.alloc (.cells (zrow 32 (.int .u32 0)) 40)) := (Below.refl _ _).alloc (Nat.le_refl _) _
  obtain ⟨w1, hw1⟩ : ∃ w1 : World, w1 = w.alloc (.cells (zrow 32 (.int .u32 0)) 40) := ⟨_, rfl⟩
  rw [← hw1] at o1 hb ⊢
  clear hw1
  go_loopw [10] (fun i wr => ∃ k : Nat, k ≤ 32 ∧ i = .int .i64 k ∧ Ar wr w.heap.size 32 (outM 1 k) ∧ Below w.heap.size w wr) (fun i _ => 32 - (intOf i).toNat)
  case atStart => exact ⟨0, by omega, rfl, o1, hb⟩
  case round =>
    obtain ⟨k, hk, rfl, o1, hb⟩ := hrel
    by_cases hlt : k < 32
    · have z2 := o1.frozen' hlt
      have c3 := o1.cell hlt
      have hk0 : (0 : Int) ≤ k ∧ (k : Int) < 32 := by omega
      have h1 := one_shl hlt
      have hpb := pow_bd hlt
      obtain ⟨P, hP⟩ : ∃ P : Int, ((2 ^ k : Nat) : Int) = P := ⟨_, rfl⟩
      rw [hP] at h1 hpb
      obtain ⟨V, hV⟩ : ∃ V : Int, stpI P = V := ⟨_, rfl⟩
      have HE : Hid (Value.int .u32 V = matV 1 k) := by show _ = _; unfold matV; rw [← hV, hP]; unfold stpI stpKI; simp [stpN]
      have HV := Lib.hid hV
      clear hV hP
      go_wp2_with fail
      refine (step_any _ _ hpb).mono ?_
      rintro e w' ⟨rfl, rfl⟩
      rw [HV.out]
      go_wp2
      go_roundw
      case rel => exact ⟨k + 1, by omega, by go_num, (o1.set_ hlt _).congr fun j _ => by rw [HE.out]; exact outM_hit 1 k j, hb.setCell (Nat.le_refl _) _⟩
      case measure => simp [intOf]; omega
    · obtain rfl : 32 = k := by omega
      have hm1 : Mat wr w.heap.size 1 := o1.congr fun i hi => by unfold outM; rw [if_pos hi]
      go_wp2_with fail
      refine (twice_any _ _ _ hm1).mono ?_
      rintro e w2 ⟨g2, rfl, hg2, hm2, hb2⟩
      have hb2' := hb.trans (hb2.mono hb.size)
      go_wp2_with fail
      refine (twice_any _ _ _ hm2).mono ?_
      rintro e w3 ⟨g3, rfl, hg3, hm3, hb3⟩
      have hb3' := hb2'.trans (hb3.mono hb2'.size)
      go_wp2_with fail
      refine (twice_any _ _ _ hm3).mono ?_
      rintro e w4 ⟨g4, rfl, hg4, hm4, hb4⟩
      have hb4' := hb3'.trans (hb4.mono hb3'.size)
      have hm8 : Mat w4 g4 (8 * 2 ^ 0) := hm4
      clear hb2 hb3 hb4 hb2' hb3' hm2 hm3 hm4 hm1 o1
      go_wp2
      have hn0 : (0 : Int) ≤ (n : Int) := by omega
      go_loopw [0, 2, 9] (fun x y z wr => ∃ (j m g : Nat) (u : Int), x = .int .u32 u ∧ y = .int .i64 (m : Int) ∧ z = .pointer (some ⟨g, 0, none⟩) ∧ 0 ≤ u ∧ u < 4294967296 ∧ m ≤ n ∧ Hid (m = n / 2 ^ j) ∧ Hid (u = stpKI (8 * (n % 2 ^ j)) a) ∧ Mat wr g (8 * 2 ^ j) ∧ Below w.heap.size w wr) (fun _ y _ _ => (intOf y).toNat)
      case atStart => exact ⟨0, n, g4, a, rfl, rfl, rfl, ha.1, ha.2, Nat.le_refl _, by show _ = _; simp, by show _ = _; simp [Nat.mod_one, stpKI_zero ha.1], hm8, hb4'⟩
      case round =>
        obtain ⟨j, m, g, u, rfl, rfl, rfl, hu0, hu1, hmn, HM, HU, hm, hb⟩ := hrel
        by_cases hm0 : m = 0
        · subst hm0
          have hlt : n < 2 ^ j := by
            have h1 := HM.out
            have h2 := Nat.div_add_mod n (2 ^ j)
            have h3 := Nat.mod_lt n (Nat.two_pow_pos j)
            rw [← h1, Nat.mul_zero, Nat.zero_add] at h2
            omega
          have hu2 : u = stpKI (8 * n) a := by rw [HU.out, Nat.mod_eq_of_lt hlt]
          have hx := xor32 ⟨hu0, hu1⟩ hb0
          have HX : Hid (xorI u b = joinC a b n) := by show _ = _; unfold joinC; rw [hu2]
          clear hlt hu2
          obtain ⟨z, hz⟩ : ∃ z : Int, z = ((0 : Nat) : Int) := ⟨_, rfl⟩
          go_wp2
          go_ret
          exact ⟨ret_int HX.out, hb⟩
        · have hmp : (0 : Int) < (m : Int) ∧ (m : Int) ≤ 1000000 := by omega
          have hand := and_one64 m (by omega)
          have HN := Lib.hid (show m / 2 = n / 2 ^ (j + 1) by rw [HM.out, div_next])
          have e2 : 8 * 2 ^ j + 8 * 2 ^ j = 8 * 2 ^ (j + 1) := by rw [Nat.pow_succ]; omega
          have E2 := Lib.hid e2
          clear e2
          by_cases ho : m % 2 = 1
          · have t : (bits .and .i64 (m : Int) 1 != 0) = true := by rw [hand, ho]; rfl
            have H1 := Lib.hid (join_odd (n := n) (j := j) (a := a) (by rw [← HM.out]; exact ho))
            have hbd := stpKI_bd (8 * 2 ^ j) ⟨hu0, hu1⟩
            clear hand hm0
            go_wp2_with fail
            refine (times_any _ _ _ _ hm ⟨hu0, hu1⟩).mono ?_
            rintro e w' ⟨rfl, rfl⟩
            obtain ⟨V, hV⟩ : ∃ V : Int, stpKI (8 * 2 ^ j) u = V := ⟨_, rfl⟩
            rw [hV] at hbd ⊢
            have HV := Lib.hid (show V = stpKI (8 * (n % 2 ^ (j + 1))) a by rw [← hV, HU.out, H1.out])
            clear hV
            go_wp2_with fail
            refine (twice_any _ _ _ hm).mono ?_
            rintro e w5 ⟨g5, rfl, hg5, hm5, hb5⟩
            rw [E2.out] at hm5
            go_wp2
            go_roundw
            case rel => exact ⟨j + 1, m / 2, g5, V, rfl, by go_num, rfl, hbd.1, hbd.2, by omega, HN.out, HV.out, hm5, hb.trans (hb5.mono hb.size)⟩
            case measure => simp [intOf]; omega
          · have t : (bits .and .i64 (m : Int) 1 != 0) = false := by rw [hand, show m % 2 = 0 by omega]; rfl
            have H1 := Lib.hid (join_even (n := n) (j := j) (a := a) (by rw [← HM.out]; omega))
            clear hand hm0
            go_wp2_with fail
            refine (twice_any _ _ _ hm).mono ?_
            rintro e w5 ⟨g5, rfl, hg5, hm5, hb5⟩
            rw [E2.out] at hm5
            go_wp2
            go_roundw
            case rel => exact ⟨j + 1, m / 2, g5, u, rfl, by go_num, rfl, hu0, hu1, by omega, HN.out, by show u = _; rw [HU.out, H1.out], hm5, hb.trans (hb5.mono hb.size)⟩
            case measure => simp [intOf]; omega
end Go.Proofs.Ytekdhomjeckfeaa
