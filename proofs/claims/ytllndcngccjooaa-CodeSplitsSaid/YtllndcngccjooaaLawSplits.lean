/-
  The walk of the law CodeSplits.
-/
import Derived.Test.YtllndcngccjooaaProg
import Derived.Test.YtllndcngccjooaaCodes
import Derived.Test.YtllndcngccjooaaCheck
import Derived.Test.YtllndcngccjooaaAnswers
import Derived.Test.YtllndcngccjooaaSplitP
namespace Go.Proofs.Ytllndcngccjooaa
open Go.RowKit
set_option linter.unusedVariables false

theorem sp_int_info : (Try.prog.info? 3).map (fun i => (i.zero, i.size, i.bytes)) = some (some (.int .i64 0), 1, 8) := by kernel_rfl

/-- A store into a row of numbers. -/
theorem OwnI.set_ {k : IntKind} {w : World} {b0 : Nat} {e : TypeId} {g n c : Nat} {l : List Int} (h : OwnI k w b0 e (some ⟨g, 0, none⟩) n c l) {i : Nat} (hi : i < n) (a : Int) : OwnI k (w.setCell ⟨g, i, none⟩ (.int k a)) b0 e (some ⟨g, 0, none⟩) n c (l.set i a) := by
  refine ⟨by simpa using h.1, (h.2.set_ (by simpa using hi) _).congr fun j _ => ?_⟩
  rw [ix_set l (by rw [← h.1]; exact hi)]
  unfold upd
  split <;> rfl

set_option maxRecDepth 100000 in
set_option maxHeartbeats 4000000 in
theorem codeSplits_walk (A : Option Addr) (n c : Nat) (l : List Int) (at_ : Int) (w : World) (hl : RdI .i64 w w.heap.size A n l) (hn0 : n ≤ maxLen) (hwf : ∀ x ∈ l, (Lit.int .i64 x).wf = true)
    (hat0 : (Lit.int .u16 at_).wf = true) :
    Calls Try.prog 7 #[.slice A n c, .int .u16 at_] w fun e w' => e = .returned (.bool true) ∧ Below w.heap.size w w' := by
  have hnI : (n : Int) ≤ 9223372036854775807 := by unfold maxLen at hn0; omega
  have hab : 0 ≤ at_ ∧ at_ ≤ 65535 := by simpa [Lit.wf, IntKind.min, IntKind.max, IntKind.signed, IntKind.bits] using hat0
  obtain ⟨i0, hi, hz0, hz1, hz2⟩ := info_parts sp_int_info
  have Hi := Lib.hid hi
  have Hz0 := Lib.hid hz0
  have Hz1 := Lib.hid hz1
  have Hz2 := Lib.hid hz2
  clear hi hz0 hz1 hz2 hn0 hwf hat0
  by_cases h1 : (n : Int) < 2
  · go_enter Try.func7, Try.ntmps7
    go_wp2_with fail
    refine (answers_any _).mono ?_
    rintro e w1 ⟨rfl, hb⟩
    go_wp2
    go_ret
    exact ⟨rfl, hb⟩
  by_cases h2 : (280 : Int) < n
  · go_enter Try.func7, Try.ntmps7
    go_wp2_with fail
    refine (answers_any _).mono ?_
    rintro e w1 ⟨rfl, hb⟩
    go_wp2
    go_ret
    exact ⟨rfl, hb⟩
  by_cases hck : checkOf l 15 = 0
  case neg =>
    have hck' : (checkOf l 15 == 0) = false := by simpa using hck
    go_enter Try.func7, Try.ntmps7
    go_wp2_with fail
    refine (check_any _ _ _ _ _ _ _ hl (by omega)).mono ?_
    rintro e w2 ⟨rfl, rfl⟩
    obtain ⟨T, hT⟩ : ∃ T : Int, checkOf l 15 = T := ⟨_, rfl⟩
    rw [hT] at hck' ⊢
    have hck2 : (T != 0) = true := by simpa using hck'
    clear hT hck
    go_wp2_with fail
    refine (answers_any _).mono ?_
    rintro e w2 ⟨rfl, hb2⟩
    go_wp2
    go_ret
    exact ⟨rfl, hb2⟩
  obtain ⟨hle, hin, hS, hful⟩ := check_ok hck
  have HCK := Lib.hid hck
  have Hin := Lib.hid hin
  have hnl := Lib.hid hl.1
  clear hck hin hful hS hle
  by_cases hs : sumTo l n = 32768
  case neg =>
    obtain ⟨S, hS⟩ : ∃ S : Int, ((sumTo l n : Nat) : Int) = S := ⟨_, rfl⟩
    have hs' : (S == 32768) = false := by simp; omega
    have hs2 : (S != 32768) = true := by simp; omega
    have HS := Lib.hid hS
    clear hs hS
    go_enter Try.func7, Try.ntmps7
    go_wp2_with fail
    refine (check_any _ _ _ _ _ _ _ hl (by omega)).mono ?_
    rintro e w2 ⟨rfl, rfl⟩
    rw [HCK.out]
    go_wp2_with fail
    refine (rsum_any _ _ _ _ _ _ hl (by omega)).mono ?_
    rintro e w2 ⟨rfl, rfl⟩
    rw [HS.out]
    go_wp2_with fail
    refine (answers_any _).mono ?_
    rintro e w2 ⟨rfl, hb2⟩
    go_wp2
    go_ret
    exact ⟨rfl, hb2⟩
  have Hs := Lib.hid (show ((sumTo l n : Nat) : Int) = 32768 by omega)
  have Hs2 := Lib.hid (show sumTo l l.length = 32768 by rw [← hnl.out]; exact hs)
  clear hs
  have hn3 : 1 ≤ (n : Int) := by omega
  obtain ⟨k, hk⟩ : ∃ k : Nat, (k : Int) = at_ % (n : Int) := ⟨(at_ % (n : Int)).toNat, by have := Int.emod_nonneg at_ (show (n : Int) ≠ 0 by omega); omega⟩
  have hkn : k < n := by have := Int.emod_lt_of_pos at_ (show (0 : Int) < n by omega); omega
  have HK := Lib.hid hk
  clear hk
  have hkk := Hin.out k (by rw [← hnl.out]; exact hkn)
  obtain ⟨v, hv⟩ : ∃ v : Nat, ix l k = (v : Int) := ⟨(ix l k).toNat, by omega⟩
  obtain ⟨a1, hA, _, lk⟩ := hl.at_ hkn
  rw [hv] at lk hkk
  have hk0 : (0 : Int) ≤ (k : Int) ∧ (k : Int) < n := by omega
  by_cases q1 : v = 0 ∨ v = 15
  · have t1 : ((v : Int) == 0) = true ∨ (((v : Int) == 0) = false ∧ ((v : Int) == 15) = true) := by
      rcases q1 with q1 | q1
      · left; simp [q1]
      · right; simp [q1]
    subst hA
    clear q1 hv
    rcases t1 with t1 | ⟨t1, t2⟩
    all_goals
      go_enter Try.func7, Try.ntmps7
      go_wp2_with fail
      refine (check_any _ _ _ _ _ _ _ hl (by omega)).mono ?_
      rintro e w2 ⟨rfl, rfl⟩
      rw [HCK.out]
      go_wp2_with fail
      refine (rsum_any _ _ _ _ _ _ hl (by omega)).mono ?_
      rintro e w2 ⟨rfl, rfl⟩
      rw [Hs.out]
      have hkr := HK.out.symm
      go_wp2_with fail
      refine (answers_any _).mono ?_
      rintro e w2 ⟨rfl, hb2⟩
      go_wp2
      go_ret
      exact ⟨rfl, hb2⟩
  have hv1 : 1 ≤ v ∧ v ≤ 14 := by omega
  have t1 : ((v : Int) == 0) = false := by simp; omega
  have t2 : ((v : Int) == 15) = false := by simp; omega
  have hv14 : (1 : Int) ≤ v ∧ (v : Int) ≤ 14 := by omega
  obtain ⟨X1, X2⟩ := split_x (by rw [← hnl.out]; exact hkn) (by rw [← hnl.out]; omega) Hin.out Hs2.out hv (by omega) (by omega)
  have X1H := Lib.hid X1
  have X2H := Lib.hid (show ((sumTo (l.set k ((v : Int) + 1) ++ [(v : Int) + 1]) (n + 1) : Nat) : Int) = 32768 by rw [hnl.out, X2]; rfl)
  have YH : Hid (posTo l n ≠ 2 → checkOf (l.set k 0) 15 = 3) := fun h => split_y (by rw [← hnl.out]; exact hkn) (by rw [← hnl.out]; omega) Hin.out Hs2.out hv (by omega) (by omega) (by rw [← hnl.out]; exact h)
  have ZH := Lib.hid (split_z (by rw [← hnl.out]; omega) Hin.out Hs2.out)
  have HV := Lib.hid hv
  have HA := Lib.hid hA
  clear X1 X2 hv q1 hA
  have hkr := HK.out.symm
  go_enter Try.func7, Try.ntmps7
  go_wp2_with fail
  refine (check_any _ _ _ _ _ _ _ hl (by omega)).mono ?_
  rintro e w2 ⟨rfl, rfl⟩
  rw [HCK.out]
  go_wp2_with fail
  refine (rsum_any _ _ _ _ _ _ hl (by omega)).mono ?_
  rintro e w2 ⟨rfl, rfl⟩
  rw [Hs.out]
  have hA := HA.out
  subst hA
  have hk1 : OwnI .i64 (w.alloc (.cells #[] 3)) w.heap.size 3 (some ⟨w.heap.size, 0, none⟩) 0 0 [] := OwnI.lit rfl [] _ (Nat.le_refl _) (by simp)
  go_wp2_with (first
    | (at_builtin; (refine wpList_app .i64 w.heap.size 3 i0 8 rfl (.tmp 47) (.tmp 48) _ rfl Try.underlying22 Hi.out Hz0.out Hz1.out Hz2.out rfl hk1 rfl (hl.alloc (Nat.le_refl _) _) (by omega) (by omega) (by simp) ?_)
       intro A2 c2 w2 hown hg hat
       have hb2 : Below w.heap.size w w2 := below_grown (b0 := w.heap.size) ((Below.refl _ _).alloc (Nat.le_refl _) _) hg (by simp) (by simp [blkOf])
       rw [Nat.zero_add, List.nil_append] at hown
       obtain ⟨g, rfl⟩ := hown.2.addr (by omega)
       have cg := hown.2.cell (i := k) (by omega)
       rw [HV.out] at cg
       have zg := hown.2.frozen k
       have ho1 := hown.set_ hkn ((v : Int) + 1)
       have gb := (hown.2.lt (g := g) rfl).1
       have hb3 := hb2.setCell (p := ⟨g, k, none⟩) gb (.int .i64 ((v : Int) + 1))
       clear hg hat)
    | (at_builtin; (refine wpList_app .i64 w.heap.size 3 i0 8 rfl (.tmp 56) (.tmp 61) _ rfl Try.underlying22 Hi.out Hz0.out Hz1.out Hz2.out rfl (ho1.alloc _) rfl (RdI.lit' .i64 (by simp [World.setCell]) [(v : Int) + 1] 3) (by simp; omega) (by omega) (by have := hb3.size; simp [World.setCell] at this ⊢; omega) ?_)
       intro A3 c3 w3 hx hgx hatx
       have hb4 : Below w.heap.size w w3 := below_grown (b0 := w.heap.size) (hb3.alloc hb3.size _) hgx (by have := hb3.size; simp [World.setCell] at this ⊢; omega) (by simp [blkOf]; omega)
       have HGX := Lib.hid hgx
       clear hgx hatx)
    | (at_builtin; (refine wpList_app .i64 w.heap.size 3 i0 8 rfl (.tmp 63) (.tmp 64) _ rfl Try.underlying22 Hi.out Hz0.out Hz1.out Hz2.out rfl (OwnI.lit rfl [] _ hb4.size (by simp)) rfl ((hl.below hb4).alloc hb4.size _) (by omega) (by omega) (by have := hb4.size; simp; omega) ?_)
       intro A4 c4 w4 hy hgy haty
       have hb5 : Below w.heap.size w w4 := below_grown (b0 := w.heap.size) (hb4.alloc hb4.size _) hgy (by have := hb4.size; simp; omega) (by have := hb4.size; simp [blkOf]; omega)
       rw [Nat.zero_add, List.nil_append] at hy
       obtain ⟨g4, rfl⟩ := hy.2.addr (by omega)
       have cg4 := hy.2.cell (i := k) (by omega)
       have zg4 := hy.2.frozen k
       have hyb := hy.2.lt (g := g4) rfl
       have hxl : ∀ q, blkOf A3 = some q → q < w3.heap.size := fun q hq => (hx.2.lt hq).2
       have hx4 := (hx.alloc (.cells #[] 3)).grown hgy (by simp only [blkOf, Option.map_some]; left; intro h; exact Nat.lt_irrefl _ (hxl _ h))
       have hge : g4 = w3.heap.size ∨ g4 = w3.heap.size + 1 := by simpa [blkOf] using haty
       have hx5 := hx4.far (p := ⟨g4, k, none⟩) (fun h => by have := hxl _ h; simp at this; omega) (.int .i64 0)
       have hy5 := hy.set_ hkn 0
       have hb6 := hb5.setCell (p := ⟨g4, k, none⟩) hyb.1 (.int .i64 0)
       clear hgy haty hx4))
  clear cg zg ho1 cg4 zg4 hb3 hb4 hb5 hown hy hx hxl hge hyb gb HGX
  obtain ⟨w5, hw5⟩ : ∃ w5 : World, w5 = w4.setCell ⟨g4, k, none⟩ (.int .i64 0) := ⟨_, rfl⟩
  rw [← hw5] at hx5 hy5 hb6 ⊢
  clear hw5
  go_loop [8, 9] (fun s i => ∃ j : Nat, j ≤ n ∧ i = .int .i64 j ∧ s = .int .i64 (posTo l j)) (fun _ i => n - (intOf i).toNat)
  case atStart => exact ⟨0, Nat.zero_le _, rfl, rfl⟩
  case round =>
    obtain ⟨j, hj, rfl, rfl⟩ := hrel
    have b1 := posTo_le l j
    have hl5 := hl.below hb6
    by_cases hjn : j < n
    · obtain ⟨_, hae, _, e1⟩ := hl5.at_ hjn
      obtain rfl := Option.some.inj hae
      clear hae
      by_cases hp : 0 < ix l j
      · have HP := Lib.hid (show posTo l (j + 1) = posTo l j + 1 by simp [posTo, hp])
        go_wp2
        go_round
        case rel => exact ⟨j + 1, by omega, by go_num, by rw [HP.out]; go_num⟩
        case measure => simp [intOf]; omega
      · have HP := Lib.hid (show posTo l (j + 1) = posTo l j by simp [posTo, hp])
        go_wp2
        go_round
        case rel => exact ⟨j + 1, by omega, by go_num, by rw [HP.out]⟩
        case measure => simp [intOf]; omega
    · obtain rfl : n = j := by omega
      have hx6 := hx5.rd
      have hy6 := hy5.rd
      go_wp2_with fail
      refine (answers_any _).mono ?_
      rintro e w6 ⟨rfl, hb7⟩
      have hx7 := hx6.below hb7
      have hy7 := hy6.below hb7
      have hb8 := hb6.trans (hb7.mono hb6.size)
      have hl8 := hl.below hb8
      clear hx5 hy5 hx6 hy6
      go_wp2_with fail
      refine (check_any _ _ _ _ _ _ _ hx7 (by omega)).mono ?_
      rintro e w7 ⟨rfl, rfl⟩
      rw [X1H.out]
      go_wp2_with fail
      refine (sum_any _ _ _ _ _ _ hx7 (by omega)).mono ?_
      rintro e w7 ⟨rfl, rfl⟩
      rw [X2H.out]
      have hzb : Below w.heap.size w w6 := hb8
      by_cases hp2 : posTo l n = 2
      · have hp3 : (((posTo l n : Nat) : Int) == 2) = true := by simp [hp2]
        clear hp2
        go_wp2_with (first
          | (at_builtin; (refine wpList_app .i64 w.heap.size 3 i0 8 rfl (.tmp 103) (.tmp 104) _ rfl Try.underlying22 Hi.out Hz0.out Hz1.out Hz2.out rfl (OwnI.lit rfl [] _ hb8.size (by simp)) rfl (hl8.alloc hb8.size _) (by omega) (by omega) (by have := hb8.size; simp; omega) ?_)
             intro A7 c7 w7 hz hgz hatz
             have hb9 : Below w.heap.size w w7 := below_grown (b0 := w.heap.size) (hb8.alloc hb8.size _) hgz (by have := hb8.size; simp; omega) (by have := hb8.size; simp [blkOf]; omega)
             rw [Nat.zero_add, List.nil_append] at hz)
          | (at_builtin; (refine wpList_app .i64 w.heap.size 3 i0 8 rfl (.tmp 105) (.tmp 106) _ rfl Try.underlying22 Hi.out Hz0.out Hz1.out Hz2.out rfl (hz.alloc _) rfl (RdI.lit' .i64 rfl [(15 : Int)] 3) (by simp; omega) (by omega) (by have := hb9.size; simp; omega) ?_)
             intro A8 c8 w8 hz8 hgz8 hatz8
             have hb10 : Below w.heap.size w w8 := below_grown (b0 := w.heap.size) (hb9.alloc hb9.size _) hgz8 (by have := hb9.size; simp; omega) (fun g hg => (hz.2.lt hg).1)))
        have hz9 : RdI .i64 w8 w8.heap.size A8 (n + 1) (l ++ [15]) := hz8.rd
        refine (check_any _ _ _ _ _ _ _ hz9 (by omega)).mono ?_
        rintro e w9 ⟨rfl, rfl⟩
        rw [ZH.out]
        go_wp2
        go_ret
        exact ⟨rfl, hb10⟩
      · have hp3 : (((posTo l n : Nat) : Int) == 2) = false := by simp; omega
        have YY := Lib.hid (YH.out hp2)
        clear hp2
        go_wp2_with fail
        refine (check_any _ _ _ _ _ _ _ hy7 (by omega)).mono ?_
        rintro e w7 ⟨rfl, rfl⟩
        rw [YY.out]
        go_wp2_with (first
          | (at_builtin; (refine wpList_app .i64 w.heap.size 3 i0 8 rfl (.tmp 103) (.tmp 104) _ rfl Try.underlying22 Hi.out Hz0.out Hz1.out Hz2.out rfl (OwnI.lit rfl [] _ hb8.size (by simp)) rfl (hl8.alloc hb8.size _) (by omega) (by omega) (by have := hb8.size; simp; omega) ?_)
             intro A7 c7 w7 hz hgz hatz
             have hb9 : Below w.heap.size w w7 := below_grown (b0 := w.heap.size) (hb8.alloc hb8.size _) hgz (by have := hb8.size; simp; omega) (by have := hb8.size; simp [blkOf]; omega)
             rw [Nat.zero_add, List.nil_append] at hz)
          | (at_builtin; (refine wpList_app .i64 w.heap.size 3 i0 8 rfl (.tmp 105) (.tmp 106) _ rfl Try.underlying22 Hi.out Hz0.out Hz1.out Hz2.out rfl (hz.alloc _) rfl (RdI.lit' .i64 rfl [(15 : Int)] 3) (by simp; omega) (by omega) (by have := hb9.size; simp; omega) ?_)
             intro A8 c8 w8 hz8 hgz8 hatz8
             have hb10 : Below w.heap.size w w8 := below_grown (b0 := w.heap.size) (hb9.alloc hb9.size _) hgz8 (by have := hb9.size; simp; omega) (fun g hg => (hz.2.lt hg).1)))
        have hz9 : RdI .i64 w8 w8.heap.size A8 (n + 1) (l ++ [15]) := hz8.rd
        refine (check_any _ _ _ _ _ _ _ hz9 (by omega)).mono ?_
        rintro e w9 ⟨rfl, rfl⟩
        rw [ZH.out]
        go_wp2
        go_ret
        exact ⟨rfl, hb10⟩
end Go.Proofs.Ytllndcngccjooaa
