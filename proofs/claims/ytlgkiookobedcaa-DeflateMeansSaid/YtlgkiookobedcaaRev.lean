/-
  The walks of bits.Reverse.
-/
import Derived.Test.YtlgkiookobedcaaProg
import Derived.Test.YtlgkiookobedcaaPk5
namespace Go.Proofs.Ytlgkiookobedcaa
open Go.RowKit
set_option linter.unusedVariables false
theorem stg_lt {s m x : Nat} (hm : m * 2 ^ s < 4294967296) (h : x < 4294967296) (hm' : m < 4294967296) : (x / 2 ^ s) &&& m < 4294967296 ∧ (x &&& m) * 2 ^ s < 4294967296 := by
  have h1 : (x / 2 ^ s) &&& m ≤ m := Nat.and_le_right
  have h2 : x &&& m ≤ m := Nat.and_le_right
  have h3 : (x &&& m) * 2 ^ s ≤ m * 2 ^ s := Nat.mul_le_mul_right _ h2
  omega
theorem stg_walk {s m x : Nat} (hm : m * 2 ^ s < 4294967296) (h : x < 4294967296) (hm' : m < 4294967296) :
    bits .and .u32 ((x / 2 ^ s : Nat) : Int) (m : Int) = (((x / 2 ^ s) &&& m : Nat) : Int) ∧ bits .and .u32 (x : Int) (m : Int) = ((x &&& m : Nat) : Int) ∧
    IntKind.u32.wrap (((x &&& m : Nat) : Int) * ((2 ^ s : Nat) : Int)) = (((x &&& m) * 2 ^ s : Nat) : Int) ∧ bits .or .u32 (((x / 2 ^ s) &&& m : Nat) : Int) (((x &&& m) * 2 ^ s : Nat) : Int) = (stg s m x : Int) ∧ stg s m x < 4294967296 := by
  obtain ⟨h1, h2⟩ := stg_lt hm h hm'
  have hd : x / 2 ^ s < 4294967296 := Nat.lt_of_le_of_lt (Nat.div_le_self _ _) h
  refine ⟨u32_and_nat _ _ hd hm', u32_and_nat _ _ h hm', ?_, ?_, ?_⟩
  · rw [IntKind.wrap_u32, ← Int.natCast_mul]; omega
  · rw [u32_or_nat _ _ h1 h2]
    unfold stg
    rw [Nat.shiftRight_eq_div_pow, Nat.shiftLeft_eq]
  · unfold stg
    rw [Nat.shiftRight_eq_div_pow, Nat.shiftLeft_eq]
    exact Nat.or_lt_two_pow (n := 32) h1 h2
set_option maxHeartbeats 1600000 in
theorem revBytes_any (w : World) (x : Nat) (h : x < 4294967296) : Calls Try.prog 91 #[.int .u32 x] w fun e w' => e = .returned (.int .u32 (((stg 8 16711935 x >>> 16) ||| ((stg 8 16711935 x <<< 16) % 4294967296) : Nat) : Int)) ∧ w = w' := by
  obtain ⟨a1, a2, a3, a4, a5⟩ := stg_walk (s := 8) (m := 16711935) (x := x) (by decide) h (by decide)
  obtain ⟨y, hy⟩ : ∃ y, stg 8 16711935 x = y := ⟨_, rfl⟩
  have e1 : (x : Int) / 256 = ((x / 2 ^ 8 : Nat) : Int) := by omega
  obtain ⟨p, hp⟩ : ∃ p, x / 2 ^ 8 = p := ⟨_, rfl⟩
  rw [hp] at e1 a1 a4
  obtain ⟨q, hq⟩ : ∃ q, p &&& 16711935 = q := ⟨_, rfl⟩
  obtain ⟨r, hr⟩ : ∃ r, x &&& 16711935 = r := ⟨_, rfl⟩
  rw [hq] at a1 a4
  rw [hr] at a2 a3 a4
  obtain ⟨u, hu⟩ : ∃ u, r * 2 ^ 8 = u := ⟨_, rfl⟩
  rw [hu] at a3 a4
  rw [hy] at a4 a5
  have c1 : bits .and .u32 (p : Int) 16711935 = (q : Int) := a1
  have c2 : bits .and .u32 (x : Int) 16711935 = (r : Int) := a2
  have c3 : ((r : Int) * 256) % 4294967296 = (u : Int) := by rw [← a3, IntKind.wrap_u32]; rfl
  have c4 : bits .or .u32 (q : Int) (u : Int) = (y : Int) := a4
  have d1 : (y : Int) / 65536 = ((y / 65536 : Nat) : Int) := by omega
  have d2 : ((y : Int) * 65536) % 4294967296 = ((y * 65536 % 4294967296 : Nat) : Int) := by omega
  have d3 : bits .or .u32 ((y / 65536 : Nat) : Int) ((y * 65536 % 4294967296 : Nat) : Int) = ((y / 65536 ||| y * 65536 % 4294967296 : Nat) : Int) := u32_or_nat _ _ (by omega) (by omega)
  obtain ⟨d, hd⟩ : ∃ d, y / 65536 = d := ⟨_, rfl⟩
  obtain ⟨f, hf⟩ : ∃ f, y * 65536 % 4294967296 = f := ⟨_, rfl⟩
  rw [hd] at d1 d3
  rw [hf] at d2 d3
  obtain ⟨z, hz⟩ : ∃ z, d ||| f = z := ⟨_, rfl⟩
  rw [hz] at d3
  have HR : Hid (((y >>> 16) ||| ((y <<< 16) % 4294967296)) = z) := by
    show _ = _
    rw [Nat.shiftRight_eq_div_pow, Nat.shiftLeft_eq, ← hz, ← hd, ← hf]
  rw [hy]
  have hxI : (0 : Int) ≤ x ∧ (x : Int) < 4294967296 := by omega
  have hyI : (0 : Int) ≤ y ∧ (y : Int) < 4294967296 := by omega
  clear a1 a2 a3 a4 hy hp hq hr hu hd hf hz
  go_enter Try.func91, Try.ntmps91
  go_wp2
  go_ret
  exact ⟨ret_int (by rw [HR.out]), rfl⟩
theorem stg_facts (s m x : Nat) (P M : Int) (hP : P = ((2 ^ s : Nat) : Int)) (hM : M = (m : Int)) (hm : m * 2 ^ s < 4294967296) (h : x < 4294967296) (hm' : m < 4294967296) :
    ∃ p q r u : Nat, (x : Int) / P = (p : Int) ∧ bits .and .u32 (p : Int) M = (q : Int) ∧ bits .and .u32 (x : Int) M = (r : Int) ∧ ((r : Int) * P) % 4294967296 = (u : Int) ∧ bits .or .u32 (q : Int) (u : Int) = (stg s m x : Int) ∧ stg s m x < 4294967296 := by
  obtain ⟨a1, a2, a3, a4, a5⟩ := stg_walk hm h hm'
  refine ⟨x / 2 ^ s, (x / 2 ^ s) &&& m, x &&& m, (x &&& m) * 2 ^ s, ?_, by rw [hM]; exact a1, by rw [hM]; exact a2, ?_, a4, a5⟩
  · rw [hP]; simp
  · rw [hP, ← a3, IntKind.wrap_u32]
set_option maxHeartbeats 1600000 in
theorem rev32_any (w : World) (x : Nat) (h : x < 4294967296) : Calls Try.prog 87 #[.int .u32 x] w fun e w' => e = .returned (.int .u32 (rev32 x : Int)) ∧ w = w' := by
  obtain ⟨p1, q1, r1, u1, a1, a2, a3, a4, a5, h1⟩ := stg_facts 1 1431655765 x 2 1431655765 rfl rfl (by decide) h (by decide)
  obtain ⟨y1, hy1⟩ : ∃ y, stg 1 1431655765 x = y := ⟨_, rfl⟩
  rw [hy1] at a5 h1
  obtain ⟨p2, q2, r2, u2, b1, b2, b3, b4, b5, h2⟩ := stg_facts 2 858993459 y1 4 858993459 rfl rfl (by decide) h1 (by decide)
  obtain ⟨y2, hy2⟩ : ∃ y, stg 2 858993459 y1 = y := ⟨_, rfl⟩
  rw [hy2] at b5 h2
  obtain ⟨p3, q3, r3, u3, c1, c2, c3, c4, c5, h3⟩ := stg_facts 4 252645135 y2 16 252645135 rfl rfl (by decide) h2 (by decide)
  obtain ⟨y3, hy3⟩ : ∃ y, stg 4 252645135 y2 = y := ⟨_, rfl⟩
  rw [hy3] at c5 h3
  have HR : Hid (rev32 x = (stg 8 16711935 y3 >>> 16) ||| ((stg 8 16711935 y3 <<< 16) % 4294967296)) := by
    show _ = _
    unfold rev32
    rw [hy1, hy2, hy3]
  have hb : (0 : Int) ≤ x ∧ (0 : Int) ≤ y1 ∧ (0 : Int) ≤ y2 ∧ (0 : Int) ≤ y3 := by omega
  clear hy1 hy2 hy3
  go_enter Try.func87, Try.ntmps87
  go_wp2_with fail
  refine (revBytes_any _ y3 h3).mono ?_
  rintro e w' ⟨rfl, rfl⟩
  go_wp2
  go_ret
  exact ⟨ret_int (by rw [HR.out]), rfl⟩
set_option maxHeartbeats 1600000 in
theorem reverse_ok (w : World) (V : Int) (N : Nat) (hV : 0 ≤ V ∧ V < 4294967296) (h : 1 ≤ (N : Int) ∧ (N : Int) ≤ 32) : Calls Try.prog 77 #[.int .u32 V, .int .i64 N] w fun e w' => e = .returned (.int .u32 (revN V N)) ∧ w = w' := by
  obtain ⟨x, rfl⟩ := Int.eq_ofNat_of_zero_le hV.1
  have hx : x < 4294967296 := by omega
  have hN : ¬ (N : Int) < 1 ∧ ¬ 32 < (N : Int) := by omega
  obtain ⟨M, hM⟩ : ∃ M : Nat, 32 - N = M := ⟨_, rfl⟩
  have hMI : (32 : Int) - (N : Int) = (M : Int) := by omega
  have hr := rev_is x N hx (by omega)
  rw [hM] at hr
  obtain ⟨y, hy⟩ : ∃ y, rev32 x = y := ⟨_, rfl⟩
  rw [hy] at hr
  have e1 : (y : Int) / 2 ^ M = ((y / 2 ^ M : Nat) : Int) := by rw [← cast_pow2]; simp
  have HR := Lib.hid hr
  have HY := Lib.hid hy
  have hM0 : (0 : Int) ≤ M := by omega
  obtain ⟨z, hz⟩ : ∃ z, y / 2 ^ M = z := ⟨_, rfl⟩
  rw [hz] at e1
  have HZ := Lib.hid hz
  clear hr hy hM hz
  go_enter Try.func77, Try.ntmps77
  go_wp2_with fail
  refine (rev32_any _ x hx).mono ?_
  rintro e w' ⟨rfl, rfl⟩
  rw [HY.out]
  go_wp2
  go_ret
  exact ⟨ret_int (by rw [HR.out, HZ.out]), rfl⟩
end Go.Proofs.Ytlgkiookobedcaa
