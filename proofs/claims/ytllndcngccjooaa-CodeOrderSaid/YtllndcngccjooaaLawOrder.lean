/-
  The walk of the law CodeOrder.
-/
import Derived.Test.YtllndcngccjooaaProg
import Derived.Test.YtllndcngccjooaaCodes
import Derived.Test.YtllndcngccjooaaCheck
import Derived.Test.YtllndcngccjooaaAnswers
import Derived.Test.YtllndcngccjooaaTree
import Derived.Deep.RegionHeld3
namespace Go.Proofs.Ytllndcngccjooaa
open Go.RowKit
set_option linter.unusedVariables false

theorem shl_less {C D u v : Nat} (h : (C + 1) * 2 ^ (v - u) ≤ D) (huv : u ≤ v) (hv : v ≤ 15) (hD : D < 32768) :
    decide (IntKind.u32.wrap ((C : Int) * 2 ^ min (IntKind.u64.wrap (IntKind.i64.wrap ((v : Int) - (u : Int)))).toNat 32) < (D : Int)) = true := by
  have e1 : IntKind.i64.wrap ((v : Int) - (u : Int)) = ((v - u : Nat) : Int) := by rw [IntWalk.i64_in _ (by omega)]; omega
  have e2 : IntKind.u64.wrap ((v - u : Nat) : Int) = ((v - u : Nat) : Int) := IntWalk.u64_in _ (by omega)
  rw [e1, e2, Int.toNat_natCast, Nat.min_eq_left (by omega)]
  have e3 : (C : Int) * 2 ^ (v - u) = ((C * 2 ^ (v - u) : Nat) : Int) := by simp
  rw [Nat.add_mul] at h
  have h2 : 1 ≤ 2 ^ (v - u) := Nat.one_le_two_pow
  rw [e3, IntWalk.u32_in _ (by omega), decide_eq_true_eq]
  omega

set_option maxRecDepth 100000 in
set_option maxHeartbeats 2000000 in
theorem codeOrder_walk (A : Option Addr) (n c : Nat) (l : List Int) (a b : Int) (w : World) (hl : RdI .i64 w w.heap.size A n l) (hn0 : n ≤ maxLen) (hwf : ∀ x ∈ l, (Lit.int .i64 x).wf = true)
    (ha0 : (Lit.int .u16 a).wf = true) (hb0 : (Lit.int .u16 b).wf = true) :
    Calls Try.prog 6 #[.slice A n c, .int .u16 a, .int .u16 b] w fun e w' => e = .returned (.bool true) ∧ Below w.heap.size w w' := by
  have hnI : (n : Int) ≤ 9223372036854775807 := by unfold maxLen at hn0; omega
  have hab : 0 ≤ a ∧ a ≤ 65535 := by simpa [Lit.wf, IntKind.min, IntKind.max, IntKind.signed, IntKind.bits] using ha0
  have hbb : 0 ≤ b ∧ b ≤ 65535 := by simpa [Lit.wf, IntKind.min, IntKind.max, IntKind.signed, IntKind.bits] using hb0
  clear hn0 hwf ha0 hb0
  by_cases h1 : (288 : Int) < n
  · go_enter Try.func6, Try.ntmps6
    go_wp2_with fail
    refine (answers_any _).mono ?_
    rintro e w1 ⟨rfl, hb⟩
    go_wp2
    go_ret
    exact ⟨rfl, hb⟩
  · by_cases hck : checkOf l 15 = 0
    · obtain ⟨hle, hin, hS, hful⟩ := check_ok hck
      have HCK := Lib.hid hck
      have Hin := Lib.hid hin
      have HS := Lib.hid hS
      have hn2 : n ≤ 288 := by have := hl.1; omega
      have hnl := Lib.hid hl.1
      clear hck hin hful hS hle
      by_cases hz : n = 0
      · have hz' : ((n : Int) == 0) = true := by simp; omega
        clear hz
        go_enter Try.func6, Try.ntmps6
        go_wp2_with fail
        refine (check_any _ _ _ _ _ _ _ hl (by omega)).mono ?_
        rintro e w2 ⟨rfl, rfl⟩
        rw [HCK.out]
        go_wp2_with fail
        refine (answers_any _).mono ?_
        rintro e w1 ⟨rfl, hb⟩
        go_wp2
        go_ret
        exact ⟨rfl, hb⟩
      · have hz' : ((n : Int) == 0) = false := by simp; omega
        have hn3 : 1 ≤ (n : Int) := by omega
        clear hz
        obtain ⟨i, hi⟩ : ∃ i : Nat, (i : Int) = a % (n : Int) := ⟨(a % (n : Int)).toNat, by have := Int.emod_nonneg a (show (n : Int) ≠ 0 by omega); omega⟩
        obtain ⟨k, hk⟩ : ∃ k : Nat, (k : Int) = b % (n : Int) := ⟨(b % (n : Int)).toNat, by have := Int.emod_nonneg b (show (n : Int) ≠ 0 by omega); omega⟩
        have hin : i < n := by have := Int.emod_lt_of_pos a (show (0 : Int) < n by omega); omega
        have hkn : k < n := by have := Int.emod_lt_of_pos b (show (0 : Int) < n by omega); omega
        have HI := Lib.hid hi
        have HK := Lib.hid hk
        clear hi hk
        go_enter Try.func6, Try.ntmps6
        go_wp2_with fail
        refine (check_any _ _ _ _ _ _ _ hl (by omega)).mono ?_
        rintro e w2 ⟨rfl, rfl⟩
        rw [HCK.out]
        go_wp2_with fail
        refine (codes_any _ _ _ _ _ _ hl (Nat.le_refl _) hn2).mono ?_
        rintro e w2 ⟨g, rfl, hc, hb2⟩
        have hl2 := hl.below hb2
        go_wp2
        go_quiet (fail)
        rw [← HI.out, ← HK.out]
        have ci := hc.head hin
        have ck := hc.head hkn
        rw [ix_codesOf l (by rw [← hnl.out]; exact hn2) (by rw [← hnl.out]; exact hin)] at ci
        rw [ix_codesOf l (by rw [← hnl.out]; exact hn2) (by rw [← hnl.out]; exact hkn)] at ck
        obtain ⟨a1, rfl, ha1, li⟩ := hl2.at_ hin
        obtain ⟨_, hae, _, lk⟩ := hl2.at_ hkn
        obtain rfl := Option.some.inj hae
        clear hae
        have ha2 : a1.block < w2.heap.size := Nat.lt_of_lt_of_le ha1 hb2.size
        have hg : g < w2.heap.size := by obtain ⟨ad, e, hh, _⟩ := hc.at_ hin; cases e; exact hh
        have hki := Hin.out i (by rw [← hnl.out]; exact hin)
        have hkk := Hin.out k (by rw [← hnl.out]; exact hkn)
        obtain ⟨u, hu⟩ : ∃ u : Nat, ix l i = (u : Int) := ⟨(ix l i).toNat, by omega⟩
        obtain ⟨v, hv⟩ : ∃ v : Nat, ix l k = (v : Int) := ⟨(ix l k).toNat, by omega⟩
        rw [hu] at li hki
        rw [hv] at lk hkk
        have HU := Lib.hid hu
        have HV := Lib.hid hv
        obtain ⟨C, hC⟩ : ∃ C : Nat, codeAt l i = C := ⟨_, rfl⟩
        obtain ⟨D, hD⟩ : ∃ D : Nat, codeAt l k = D := ⟨_, rfl⟩
        rw [hC] at ci
        rw [hD] at ck
        have HC := Lib.hid hC
        have HD := Lib.hid hD
        have hi0 : (0 : Int) ≤ (i : Int) ∧ (i : Int) < n := by omega
        have hk0 : (0 : Int) ≤ (k : Int) ∧ (k : Int) < n := by omega
        clear hu hv hC hD
        by_cases q1 : i = k
        · have t1 : ((i : Int) == (k : Int)) = true := by simp [q1]
          clear q1
          go_wp2_with fail
          go_quiet (fail)
          go_wp2_with fail
          refine (answers_any _).mono ?_
          rintro e w3 ⟨rfl, hb3⟩
          go_wp2_with fail
          go_ret
          exact ⟨rfl, (below_drewN hb2 _).trans (hb3.mono (by simpa using hb2.size))⟩
        · have t1 : ((i : Int) == (k : Int)) = false := by simp; omega
          by_cases q2 : u = 0
          · have t2 : ((u : Int) == 0) = true := by simp [q2]
            clear q2
            go_wp2_with fail
            go_quiet (fail)
            go_wp2_with fail
            refine (answers_any _).mono ?_
            rintro e w3 ⟨rfl, hb3⟩
            go_wp2_with fail
            go_ret
            exact ⟨rfl, (below_drewN hb2 _).trans (hb3.mono (by simpa using hb2.size))⟩
          · have t2 : ((u : Int) == 0) = false := by simp; omega
            by_cases q3 : v = 0
            · have t3 : ((v : Int) == 0) = true := by simp [q3]
              clear q3
              go_wp2_with fail
              go_quiet (fail)
              go_wp2_with fail
              refine (answers_any _).mono ?_
              rintro e w3 ⟨rfl, hb3⟩
              go_wp2_with fail
              go_ret
              exact ⟨rfl, (below_drewN hb2 _).trans (hb3.mono (by simpa using hb2.size))⟩
            · have t3 : ((v : Int) == 0) = false := by simp; omega
              by_cases q4 : v < u
              · have t4 : decide ((v : Int) < (u : Int)) = true := by simp; omega
                go_wp2_with fail
                go_quiet (fail)
                go_wp2_with fail
                refine (answers_any _).mono ?_
                rintro e w3 ⟨rfl, hb3⟩
                go_wp2_with fail
                go_ret
                exact ⟨rfl, (below_drewN hb2 _).trans (hb3.mono (by simpa using hb2.size))⟩
              · have t4 : decide ((v : Int) < (u : Int)) = false := by simp; omega
                by_cases q5 : u = v
                · have t5 : ((u : Int) == (v : Int)) = true := by simp [q5]
                  have T6 : Hid ((decide (C < D) == decide (i < k)) = true) := by
                    show (decide (C < D) == decide (i < k)) = true
                    rw [← q5] at HV
                    by_cases h : i < k
                    · have := place_same (v := u) (by omega) (by omega) HU.out HV.out h
                      rw [HC.out, HD.out] at this
                      rw [decide_eq_true this, decide_eq_true h]; rfl
                    · have := place_same (v := u) (by omega) (by omega) HV.out HU.out (by omega)
                      rw [HC.out, HD.out] at this
                      rw [decide_eq_false (show ¬ C < D by omega), decide_eq_false h]; rfl
                  clear q5
                  go_wp2_with fail
                  go_quiet (fail)
                  go_wp2_with fail
                  go_quiet (fail)
                  go_wp2_with fail
                  go_region_held3 (fun w' => w'.cell? ⟨g, i, none⟩ = some (.int .u32 C) ∧ w'.cell? ⟨g, k, none⟩ = some (.int .u32 D))
                    (first | go_keep | (go_split_ands; refine ⟨?_, ?_⟩ <;> (rw [hb3.cell (by simpa using hg)]; assumption)))
                    (first | (go_at_call 8; refine (answers_any _).mono ?_; rintro e w3 ⟨rfl, hb3⟩))
                  go_wp2
                  go_ret
                  exact ⟨ret_bool T6.out, (below_drewN hb2 _).trans (hb3.mono (by simpa using hb2.size))⟩
                · have t5 : ((u : Int) == (v : Int)) = false := by simp; omega
                  have HL := Lib.hid (show (C + 1) * 2 ^ (v - u) ≤ D by rw [← HC.out, ← HD.out]; exact place_less (by omega) (by omega) (by omega) HU.out HV.out (by rw [← hnl.out]; exact hin))
                  have HDl : (D : Int) < 32768 := by
                    have h1 := code_fits (i := k) (v := v) (by omega) (by omega) HV.out (by rw [← hnl.out]; exact hkn) HS.out
                    rw [HD.out] at h1
                    have h2 : 2 ^ v ≤ 2 ^ 15 := Nat.pow_le_pow_right (by omega) (by omega)
                    omega
                  go_wp2_with fail
                  go_quiet (fail)
                  go_wp2_with fail
                  go_quiet (fail)
                  go_wp2_with fail
                  go_region_held3 (fun w' => w'.cell? ⟨g, i, none⟩ = some (.int .u32 C) ∧ w'.cell? ⟨g, k, none⟩ = some (.int .u32 D) ∧ w'.cell? (a1.add i) = some (.int .i64 u) ∧ w'.cell? (a1.add k) = some (.int .i64 v))
                    (first | go_keep | (go_split_ands; refine ⟨?_, ?_, ?_, ?_⟩ <;> (rw [hb3.cell (by simp [addr_block]; omega)]; assumption)))
                    (first | (go_at_call 8; refine (answers_any _).mono ?_; rintro e w3 ⟨rfl, hb3⟩))
                  go_wp2
                  go_ret
                  refine ⟨ret_bool ?_, ?_⟩
                  · exact shl_less HL.out (by omega) (by omega) (by omega)
                  · exact (below_drewN hb2 _).trans (hb3.mono (by simpa using hb2.size))
    · have hck' : (checkOf l 15 == 0) = false := by simpa using hck
      go_enter Try.func6, Try.ntmps6
      go_wp2_with fail
      refine (check_any _ _ _ _ _ _ _ hl (by omega)).mono ?_
      rintro e w2 ⟨rfl, rfl⟩
      obtain ⟨T, hT⟩ : ∃ T : Int, checkOf l 15 = T := ⟨_, rfl⟩
      rw [hT] at hck' ⊢
      clear hT hck
      go_wp2_with fail
      refine (answers_any _).mono ?_
      rintro e w2 ⟨rfl, hb2⟩
      go_wp2_with fail
      go_ret
      exact ⟨rfl, hb2⟩
end Go.Proofs.Ytllndcngccjooaa
