/-
  The walk of Copy.
-/
import Derived.Test.YtjeedkjgjfbndaaProg
import Derived.Test.YtjeedkjgjfbndaaWin
namespace Go.Proofs.Ytjeedkjgjfbndaa
open Go.RowKit
set_option linter.unusedVariables false

/-- the bytes that come again -/
def cpL (l : List Int) (D N : Nat) : List Int := (List.range N).map fun i => ix l (l.length - D + i % D)
theorem cpL_length (l : List Int) (D N : Nat) : (cpL l D N).length = N := by simp [cpL]
theorem ix_cpL (l : List Int) (D N : Nat) {i : Nat} (h : i < N) : ix (cpL l D N) i = ix l (l.length - D + i % D) := by simp [ix, cpL, h]
def cpV (l : List Int) (D k i : Nat) : Value := .int .u8 (if i < k then ix l (l.length - D + i % D) else 0)
theorem cpV_zero (l : List Int) (D i : Nat) : Value.int .u8 0 = cpV l D 0 i := by unfold cpV; rw [if_neg (Nat.not_lt_zero _)]
theorem cpV_at (l : List Int) (D : Nat) {k i : Nat} (h : i < k) : cpV l D k i = .int .u8 (ix l (l.length - D + i % D)) := by unfold cpV; rw [if_pos h]
theorem cpV_hit (l : List Int) (D k : Nat) (v : Int) (hv : v = ix l (l.length - D + k % D)) (j : Nat) : upd (cpV l D k) k (.int .u8 v) j = cpV l D (k + 1) j := by
  by_cases hj : j = k
  · subst hj; rw [upd_same, cpV_at _ _ (by omega), hv]
  · rw [upd_other _ _ hj]; unfold cpV; congr 1
    by_cases h : j < k
    · rw [if_pos h, if_pos (by omega)]
    · rw [if_neg h, if_neg (by omega)]

theorem copy_nil (w : World) (N D : Int) : Calls Try.prog 46 #[.pointer none, .int .i64 N, .int .i64 D] w fun e w' => e = .returned (.tuple #[.slice none 0 0, .int .i64 1]) ∧ w = w' := by
  go_enter Try.func46, Try.ntmps46
  go_wp2
  go_ret2
  exact ⟨rfl, rfl⟩
theorem copy_arg (w : World) (g : Nat) (N D : Int) (hN : N < 1 ∨ 258 < N) : Calls Try.prog 46 #[.pointer (some ⟨g, 0, none⟩), .int .i64 N, .int .i64 D] w fun e w' => e = .returned (.tuple #[.slice none 0 0, .int .i64 1]) ∧ w = w' := by
  have h : N < 1 ∨ (¬ N < 1 ∧ 258 < N) := by omega
  clear hN
  rcases h with h | ⟨h0, h⟩
  all_goals
    go_enter Try.func46, Try.ntmps46
    go_wp2
    go_ret2
    exact ⟨rfl, rfl⟩
theorem copy_code (w : World) (b0 g n c : Nat) (A : Option Addr) (l : List Int) (hw : Win w b0 g A n c l) (N D : Int) (hN : 1 ≤ N ∧ N ≤ 258) (hD : D < 1 ∨ ((min n 32768 : Nat) : Int) < D) :
    Calls Try.prog 46 #[.pointer (some ⟨g, 0, none⟩), .int .i64 N, .int .i64 D] w fun e w' => e = .returned (.tuple #[.slice none 0 0, .int .i64 3]) ∧ w = w' := by
  have h : D < 1 ∨ (¬ D < 1 ∧ ((min n 32768 : Nat) : Int) < D) := by omega
  clear hD
  rcases h with h | ⟨h0, h⟩
  · go_enter Try.func46, Try.ntmps46
    go_wp2
    go_ret2
    exact ⟨rfl, rfl⟩
  · obtain ⟨q, hq⟩ : ∃ q : Int, ((min n 32768 : Nat) : Int) = q := ⟨_, rfl⟩
    rw [hq] at h
    have HQ := Lib.hid hq
    clear hq
    go_enter Try.func46, Try.ntmps46
    go_wp2_with fail
    refine (winLen_any _ _ _ _ _ _ _ hw).mono ?_
    rintro e w' ⟨rfl, rfl⟩
    rw [HQ.out]
    go_wp2
    go_ret2
    exact ⟨rfl, rfl⟩

def CopyPost (w : World) (b0 g : Nat) (A : Option Addr) (l : List Int) (D N : Nat) (e : Ending) (w' : World) : Prop :=
  ∃ g' A' n' c', e = .returned (.tuple #[.slice (some ⟨g', 0, none⟩) N N, .int .i64 0]) ∧ OwnI .u8 w' w.heap.size 5 (some ⟨g', 0, none⟩) N N (cpL l D N) ∧ Win w' b0 g A' n' c' (addL l (cpL l D N)) ∧ ¬ foot A' g g' ∧
    Chg w w' (foot A g) ∧ (∀ k, blkOf A' = some k → blkOf A = some k ∨ w.heap.size ≤ k)

set_option maxRecDepth 100000 in
set_option maxHeartbeats 4000000 in
theorem copy_ok (w : World) (b0 g n c : Nat) (A : Option Addr) (l : List Int) (hw : Win w b0 g A n c l) (N D : Nat) (hN : 1 ≤ (N : Int) ∧ (N : Int) ≤ 258) (hD : 1 ≤ (D : Int) ∧ (D : Int) ≤ ((min n 32768 : Nat) : Int)) :
    Calls Try.prog 46 #[.pointer (some ⟨g, 0, none⟩), .int .i64 N, .int .i64 D] w (CopyPost w b0 g A l D N) := by
  obtain ⟨q, hq⟩ : ∃ q : Int, ((min n 32768 : Nat) : Int) = q := ⟨_, rfl⟩
  have hDn : (D : Int) ≤ (n : Int) := by omega
  have hn16 : (n : Int) ≤ 65536 := by have := hw.len; have := hw.n_eq; omega
  have hnl := Lib.hid hw.n_eq
  rw [hq] at hD
  have HQ := Lib.hid hq
  clear hq
  have c0 := hw.cell.cell (i := 0) (by omega)
  have hgl := hw.cell.lt
  obtain ⟨i0, hi, hz0, hz1, hz2⟩ := info_parts wbyte_info
  have hmk := fun W => run_make_zrow (P := Try.prog) 26 5 i0 (.int .u8 0) Try.underlying26 hi hz0 hz1 rfl .i64 .i64 N (by rw [hz2]; omega) (by omega) W
  have HM := Lib.hid hmk
  clear hmk hi hz0 hz1 hz2
  have hm := HM.out w
  obtain ⟨g2, rfl⟩ := hw.own.2.addr (by omega)
  have hcap := hw.own.2.capLe
  have hcI : (n : Int) ≤ (c : Int) := by omega
  go_enter Try.func46, Try.ntmps46
  go_wp2_with fail
  refine (winLen_any _ _ _ _ _ _ _ hw).mono ?_
  rintro e w' ⟨rfl, rfl⟩
  rw [HQ.out]
  go_wp2
  have c1 : (w.alloc (.cells (zrow N (.int .u8 0)) 5)).cell? ⟨g, 0, none⟩ = some (.slice (some ⟨g2, 0, none⟩) n c) := (hw.cell.alloc _).cell (by omega)
  obtain ⟨P, hP⟩ : ∃ P : Nat, n - D = P := ⟨_, rfl⟩
  have hwr : IntKind.i64.wrap ((n : Int) - (D : Int)) = (P : Int) := by rw [IntWalk.i64_in _ (by omega)]; omega
  have hPb : (0 : Int) ≤ P ∧ (P : Int) < n ∧ (P : Int) < c := by omega
  have hPn : P < n ∧ P ≤ n ∧ P ≤ c := by omega
  have hne : ¬ c = P := by omega
  have hnp : n - P = D := by omega
  have HP := Lib.hid hP
  clear hP
  clear hm
  go_quiet (fail)
  go_wp2
  have hb : Below w.heap.size w ((w.alloc (.cells (zrow N (.int .u8 0)) 5)).drewN nq) := below_drewN ((Below.refl _ _).alloc (Nat.le_refl _) _) nq
  have o1 : Own ((w.alloc (.cells (zrow N (.int .u8 0)) 5)).drewN nq) w.heap.size 5 1 (some ⟨w.heap.size, 0, none⟩) N N (cpV l D 0) :=
    (Own.lit rfl _ _ (Nat.le_refl _) (by unfold maxLen; omega) (by rw [zrow_size, Nat.mul_one]) (fun i hi => by rw [zrow_at _ (by omega)]; exact congrArg some (cpV_zero l D i)))
  obtain ⟨w1, hw1⟩ : ∃ w1 : World, w1 = (w.alloc (.cells (zrow N (.int .u8 0)) 5)).drewN nq := ⟨_, rfl⟩
  rw [← hw1] at hb o1 ⊢
  clear hw1 c1
  have hsrc := hw.own.rd.cut (j := P) (by omega) (A' := some ⟨g2, P, none⟩) (fun _ => by rw [Option.map_some, addr0])
  rw [hnp] at hsrc
  go_loopw [47] (fun i wr => ∃ k : Nat, k ≤ N ∧ i = .int .i64 k ∧ Own wr w.heap.size 5 1 (some ⟨w.heap.size, 0, none⟩) N N (cpV l D k) ∧ Below w.heap.size w wr) (fun i _ => N - (intOf i).toNat)
  case atStart => exact ⟨0, by omega, rfl, o1, hb⟩
  case round =>
    obtain ⟨k, hk, rfl, o1, hb⟩ := hrel
    by_cases hlt : k < N
    · have hk0 : (0 : Int) ≤ k ∧ (k : Int) < N := by omega
      have c2 := o1.cell (i := k) (by omega)
      have z2 := o1.frozen k
      by_cases hkD : k < D
      · obtain ⟨_, hae, _, e1⟩ := (hsrc.below hb).at_ hkD
        cases hae
        have ea : (⟨g2, P, none⟩ : Addr).add k = ⟨g2, P + k, none⟩ := by unfold Addr.add; split <;> simp_all
        rw [ea, ix_drop] at e1
        have hv : ix l (P + k) = ix l (l.length - D + k % D) := by rw [Nat.mod_eq_of_lt hkD, ← hnl.out, HP.out]
        obtain ⟨v, hve⟩ : ∃ v : Int, ix l (P + k) = v := ⟨_, rfl⟩
        rw [hve] at e1 hv
        have hit := Lib.hid (cpV_hit l D k v hv)
        clear hve hv ea
        go_wp2
        go_roundw
        case rel => exact ⟨k + 1, by omega, by go_num, (o1.set_ (by omega) _).congr fun j _ => hit.out j, hb.setCell (Nat.le_refl _) _⟩
        case measure => simp [intOf]; omega
      · have e1 := o1.cell (i := k - D) (by omega)
        rw [cpV_at l D (by omega)] at e1
        have hv : ix l (l.length - D + (k - D) % D) = ix l (l.length - D + k % D) := by rw [← Nat.mod_eq_sub_mod (by omega)]
        obtain ⟨v, hve⟩ : ∃ v : Int, ix l (l.length - D + (k - D) % D) = v := ⟨_, rfl⟩
        rw [hve] at e1 hv
        have hit := Lib.hid (cpV_hit l D k v hv)
        have hkd : ((k : Int) - (D : Int)).toNat = k - D := by omega
        clear hve hv
        go_wp2
        go_roundw
        case rel => exact ⟨k + 1, by omega, by go_num, (o1.set_ (by omega) _).congr fun j _ => hit.out j, hb.setCell (Nat.le_refl _) _⟩
        case measure => simp [intOf]; omega
    · obtain rfl : N = k := by omega
      have ho : OwnI .u8 wr w.heap.size 5 (some ⟨w.heap.size, 0, none⟩) N N (cpL l D N) := ⟨(cpL_length l D N).symm, o1.congr fun i hi => by rw [cpV_at l D (by omega), ix_cpL l D N (by omega)]⟩
      have hwk := hw.keeps hb
      go_wp2_with fail
      refine (winAdd_any _ _ _ _ _ _ _ _ _ _ _ _ hwk ho.rd (Nat.le_refl _) (by omega)).mono ?_
      rintro e w2 ⟨A', n', c', rfl, hw2, hchg, hfoot⟩
      have hol := ho.2.lt (g := w.heap.size) rfl
      have ho2 := hchg.ownI ho (fun q hq h => by
        simp [blkOf] at hq
        rcases h with h | h
        · omega
        · have := (hw.own.2.lt h).2; omega)
      go_wp2
      go_ret2
      refine ⟨w.heap.size, A', n', c', rfl, ho2, hw2, ?_, (Chg.of_below hb).trans hchg (fun k hk => .inl hk), fun k hk => ?_⟩
      · rintro (h | h)
        · omega
        · rcases hfoot _ h with h2 | h2
          · have := (hw.own.2.lt h2).2; omega
          · omega
      · rcases hfoot k hk with h2 | h2
        · exact .inl h2
        · exact .inr (Nat.le_trans hb.size h2)
end Go.Proofs.Ytjeedkjgjfbndaa
