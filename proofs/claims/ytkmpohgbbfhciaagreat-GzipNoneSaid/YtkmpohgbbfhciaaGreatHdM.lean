/-
  The walks of gzip's mark, little and good.
-/
import Derived.Test.YtkmpohgbbfhciaaGreatHdH
import Derived.Test.YtkmpohgbbfhciaaGreatStep
import Derived.Test.YtkmpohgbbfhciaaGreatIxb
import Derived.Lib.AppendStr
import Derived.Laws.Closers25b
namespace Go.Proofs.YtkmpohgbbfhciaaGreat
open Go.RowKit
set_option linter.unusedVariables false

/-- v where b is so -/
def b2i (b : Bool) (v : Int) : Int := if b then v else 0
/-- a flag -/
theorem mark_any (w : World) (b : Bool) (f : Int) : Calls Tryz.prog 25 #[.bool b, .int .u8 f] w fun e w' => e = .returned (.int .u8 (b2i b f)) ∧ w = w' := by
  cases b
  all_goals
    go_enter Tryz.func25, Tryz.ntmps25
    go_wp2
    go_ret
    exact ⟨rfl, rfl⟩
/-- a number's bytes, the lowest first -/
def leB : Nat → Int → List Int
  | 0, _ => []
  | k + 1, v => v % 256 :: leB k (v / 256)
theorem leB_length (k : Nat) (v : Int) : (leB k v).length = k := by
  induction k generalizing v with
  | zero => rfl
  | succ k ih => show (leB k (v / 256)).length + 1 = _; rw [ih]
theorem leB_bd (k : Nat) (v : Int) : ∀ x ∈ leB k v, 0 ≤ x ∧ x < 256 := by
  induction k generalizing v with
  | zero => exact fun x hx => by cases hx
  | succ k ih =>
    intro x hx
    rcases List.mem_cons.1 hx with rfl | hx
    · omega
    · exact ih _ x hx
theorem leB_snoc (k : Nat) (v : Int) : leB (k + 1) v = leB k v ++ [v / 256 ^ k % 256] := by
  induction k generalizing v with
  | zero => show [v % 256] = [v / 256 ^ 0 % 256]; rw [Int.pow_zero, Int.ediv_one]
  | succ k ih =>
    show v % 256 :: leB (k + 1) (v / 256) = v % 256 :: leB k (v / 256) ++ [_]
    rw [ih, List.cons_append, Int.ediv_ediv_of_nonneg (by omega), Int.pow_succ, Int.mul_comm]
theorem leI_leB (k : Nat) {v : Int} (h : 0 ≤ v) (h' : v < 256 ^ k) : leI (leB k v) = v := by
  induction k generalizing v with
  | zero => simp at h'; show (0 : Int) = v; omega
  | succ k ih =>
    show v % 256 + 256 * leI (leB k (v / 256)) = v
    rw [ih (by omega) (Int.ediv_lt_of_lt_mul (by omega) (by rw [Int.pow_succ] at h'; exact h'))]
    omega

set_option maxRecDepth 100000 in
theorem little_any (w : World) (v : Int) (N : Nat) (hv : 0 ≤ v ∧ v < 4294967296) (hN : N ≤ 4) :
    Calls Tryz.prog 18 #[.int .u32 v, .int .i64 N] w fun e w' => ∃ A n c, e = .returned (.slice A n c) ∧ OwnI .u8 w' w.heap.size 5 A n c (leB N v) ∧ Below w.heap.size w w' := by
  obtain ⟨i0, hi, hz0, hz1, hz2⟩ := info_parts rbyte_info
  have Hi := Lib.hid hi
  have Hz0 := Lib.hid hz0
  have Hz1 := Lib.hid hz1
  have Hz2 := Lib.hid hz2
  clear hi hz0 hz1 hz2
  have hNI : (N : Int) ≤ 4 := by omega
  go_enter Tryz.func18, Tryz.ntmps18
  go_wp2
  go_loopw [0, 5, 7] (fun x o i wr => ∃ (k : Nat) (u : Int) (A : Option Addr) (c : Nat), k ≤ N ∧ i = .int .i64 k ∧ x = .int .u32 u ∧ o = .slice A k c ∧ 0 ≤ u ∧ u < 4294967296 ∧ Hid (u = v / 256 ^ k) ∧ OwnI .u8 wr w.heap.size 5 A k c (leB k v) ∧ Below w.heap.size w wr) (fun _ _ i _ => N - (intOf i).toNat)
  case atStart => exact ⟨0, v, none, 0, by omega, rfl, rfl, rfl, hv.1, hv.2, by show _ = _; rw [Int.pow_zero, Int.ediv_one], OwnI.nil_, Below.refl _ _⟩
  case round =>
    obtain ⟨k, u, A, c, hk, rfl, rfl, rfl, hu0, hu1, HU, hown, hbel⟩ := hrel
    by_cases hlt : k < N
    · have hkI : (0 : Int) ≤ k ∧ (k : Int) < N := by omega
      have hsz := hbel.size
      have ho2 := hown.keeps (w' := wr.alloc (.cells #[.int .u8 (u % 256)] 5)) ((Below.refl _ _).alloc (Nat.le_refl _) _)
      have HSN : Hid (leB (k + 1) v = leB k v ++ [u % 256]) := by show _ = _; rw [leB_snoc, HU.out]
      have HU2 : Hid (u / 256 = v / 256 ^ (k + 1)) := by show _ = _; rw [HU.out, Int.ediv_ediv_of_nonneg (Int.le_of_lt (Int.pow_pos (by omega))), Int.pow_succ]
      have hw8 : IntKind.u8.wrap u = u % 256 := by rw [IntKind.wrap_u8]
      have hsh : u / 2 ^ 8 = u / 256 := rfl
      go_wp2_with (at_builtin; go_must (refine wpList_app .u8 w.heap.size 5 i0 1 rfl (.tmp 9) (.tmp 12) _ rfl Tryz.underlying22 Hi.out Hz0.out Hz1.out Hz2.out rfl ho2 rfl (RdI.lit .u8 wr [u % 256] 5) (by simp; omega) (by omega) (by simp; omega) ?_))
      intro A7 c7 w7 hown7 hg7 hat7
      have hb7 := below_grown (hbel.alloc (by omega) (.cells #[.int .u8 (u % 256)] 5)) hg7 (by simp; omega) (fun g hg => (ho2.2.lt hg).1)
      rw [← HSN.out] at hown7
      go_wp2
      go_roundw
      case rel => exact ⟨k + 1, u / 256, A7, c7, by omega, by go_num, by first | rfl | go_num, rfl, by omega, by omega, HU2, hown7, hb7⟩
      case measure => simp [intOf]; omega
    · obtain rfl : N = k := by omega
      go_wp2
      go_ret
      exact ⟨A, _, c, rfl, hown, hbel⟩
/-- may a text be? -/
def gdS (l : List Int) (has : Bool) : Bool := decide (l.length ≤ 4096) && (decide (¬ nz l < l.length) && (has || l.isEmpty))
theorem strOf_size (l : List Int) : (strOf l).size = l.length := by
  have := congrArg List.length (strOf_data l)
  simpa using this
set_option maxRecDepth 100000 in
theorem good_any (w : World) (l : List Int) (has : Bool) (hb : ∀ x ∈ l, 0 ≤ x ∧ x < 256) (hl : l.length ≤ 100000000) :
    Calls Tryz.prog 24 #[.string (strOf l), .bool has] w fun e w' => e = .returned (.bool (gdS l has)) ∧ w = w' := by
  have HS := Lib.hid (strOf_size l)
  have HI := Lib.hid (ixb_nz hb)
  by_cases h1 : l.length ≤ 4096
  · have h1I : (l.length : Int) ≤ 4096 := by omega
    have hd : decide (l.length ≤ 4096) = true := decide_eq_true h1
    have hsz : (strOf l).size = l.length := HS.out
    by_cases h2 : nz l < l.length
    · have HG : Hid (gdS l has = false) := by show _ = _; unfold gdS; simp [h2]
      have hz2 : ((nz l : Int) < 0) = False := by simp
      rw [if_pos h2] at HI
      go_enter Tryz.func24, Tryz.ntmps24
      go_wp2_with (go_at_call 39; refine (ixb_any _ _ _).mono ?_; rintro e1 w1 ⟨rfl, rfl⟩; rw [HI.out])
      go_ret
      exact ⟨by rw [HG.out]; rfl, rfl⟩
    · rw [if_neg h2] at HI
      cases has with
      | true =>
        have HG : Hid (gdS l true = true) := by show _ = _; unfold gdS; simp [h1]; omega
        go_enter Tryz.func24, Tryz.ntmps24
        go_wp2_with (go_at_call 39; refine (ixb_any _ _ _).mono ?_; rintro e1 w1 ⟨rfl, rfl⟩; rw [HI.out])
        go_ret
        exact ⟨by rw [HG.out]; rfl, rfl⟩
      | false =>
        cases l with
        | nil =>
          have HG : Hid (gdS [] false = true) := by show _ = _; decide
          have hse : (strOf []).toList.isEmpty = true := by rw [show (strOf []).toList = [] from (toList_nil_iff_emptyBytes _).2 rfl]; rfl
          go_enter Tryz.func24, Tryz.ntmps24
          go_wp2_with (go_at_call 39; refine (ixb_any _ _ _).mono ?_; rintro e1 w1 ⟨rfl, rfl⟩; rw [HI.out])
          go_ret
          exact ⟨by rw [HG.out]; rfl, rfl⟩
        | cons x l =>
          have HG : Hid (gdS (x :: l) false = false) := by show _ = _; unfold gdS; simp
          have hse : (strOf (x :: l)).toList.isEmpty = false := by
            cases h9 : (strOf (x :: l)).toList with
            | nil =>
              have h8 := (toList_nil_iff_emptyBytes _).1 h9
              have h7 := HS.out
              rw [h8] at h7
              simp at h7
            | cons => rfl
          go_enter Tryz.func24, Tryz.ntmps24
          go_wp2_with (go_at_call 39; refine (ixb_any _ _ _).mono ?_; rintro e1 w1 ⟨rfl, rfl⟩; rw [HI.out])
          go_ret
          exact ⟨by rw [HG.out]; rfl, rfl⟩
  · have HG : Hid (gdS l has = false) := by show _ = _; unfold gdS; simp [h1]
    have h1I : ¬ (l.length : Int) ≤ 4096 := by omega
    have hsz : (strOf l).size = l.length := HS.out
    go_enter Tryz.func24, Tryz.ntmps24
    go_wp2
    go_ret
    exact ⟨by rw [HG.out]; rfl, rfl⟩
end Go.Proofs.YtkmpohgbbfhciaaGreat
