/-
  The walks of Last and of the reference's Same.
-/
import Derived.Test.YtbcmiahggfgjjaaProg
import Derived.Test.YtbcmiahggfgjjaaWin
import Derived.Test.YtbcmiahggfgjjaaStep
namespace Go.Proofs.Ytbcmiahggfgjjaa
open Go.RowKit
set_option linter.unusedVariables false

theorem last_nil (w : World) (N : Int) : Calls Try.prog 17 #[.pointer none, .int .i64 N] w fun e w' => e = .returned (.slice none 0 0) ∧ w = w' := by
  by_cases h : N < 0
  · go_enter Try.func17, Try.ntmps17
    go_wp2_with fail
    refine (winLen_nil _).mono ?_
    rintro e w' ⟨rfl, rfl⟩
    go_wp2
    go_ret
    exact ⟨rfl, rfl⟩
  · have h2 : ¬ N < 0 ∧ 0 ≤ N := by omega
    go_enter Try.func17, Try.ntmps17
    go_wp2_with fail
    refine (winLen_nil _).mono ?_
    rintro e w' ⟨rfl, rfl⟩
    go_wp2
    all_goals go_ret
    all_goals exact ⟨rfl, rfl⟩

theorem same_any (w : World) (B n c m d : Nat) (A C : Option Addr) (l b : List Int) (hl : RdI .u8 w B A n l) (hb : RdI .u8 w B C m b) (hn : (n : Int) ≤ 1000000000) (he : l = b) :
    Calls Try.prog 16 #[.slice A n c, .slice C m d] w fun e w' => e = .returned (.bool true) ∧ ∃ q, w' = w.drewN q := by
  have hnm : n = m := by rw [hl.1, hb.1, he]
  subst hnm
  subst he
  go_enter Try.func16, Try.ntmps16
  go_wp2
  go_loopw [5] (fun i wr => ∃ k q : Nat, k ≤ n ∧ i = .int .i64 k ∧ wr = w.drewN q) (fun i _ => n - (intOf i).toNat)
  case atStart => exact ⟨0, 0, Nat.zero_le _, rfl, rfl⟩
  case round =>
    obtain ⟨k, q, hk, rfl, rfl⟩ := hrel
    by_cases hlt : k < n
    · obtain ⟨a1, rfl, _, hc⟩ := hl.at_ hlt
      obtain ⟨a2, rfl, _, hc2⟩ := hb.at_ hlt
      have hk0 : (0 : Int) ≤ k ∧ (k : Int) < n := by omega
      obtain ⟨v, hv⟩ : ∃ v : Int, ix l k = v := ⟨_, rfl⟩
      rw [hv] at hc hc2
      clear hv
      go_wp2
      go_quiet (fail)
      go_wp2
      go_roundw
      case rel => exact ⟨k + 1, _, by omega, by go_num, rfl⟩
      case measure => simp [intOf]; omega
    · obtain rfl : n = k := by omega
      go_wp2
      go_ret
      exact ⟨rfl, _, rfl⟩

def LastPost (w : World) (l : List Int) (K : Nat) (e : Ending) (w' : World) : Prop :=
  ∃ A' c', e = .returned (.slice A' K c') ∧ OwnI .u8 w' w.heap.size 5 A' K c' (l.drop (l.length - K)) ∧ Below w.heap.size w w'

theorem last_end {w w5 : World} {l : List Int} {K P c5 : Nat} {A5 : Option Addr} (hown5 : OwnI .u8 w5 w.heap.size 5 A5 (0 + K) c5 ([] ++ l.drop P))
    (hg5 : (w.alloc (Obj.cells #[] 5)).drew.grownBy w5 (blkOf (some { block := w.heap.size, off := 0 }))) (hfin : l.drop P = l.drop (l.length - K)) : LastPost w l K (.returned (.slice A5 K c5)) w5 := by
  rw [List.nil_append, Nat.zero_add, hfin] at hown5
  exact ⟨A5, c5, rfl, hown5, ((Below.refl _ w).alloc (Nat.le_refl _) _).drew.grown hg5 (by simp) (by simp [blkOf])⟩

set_option maxRecDepth 100000 in
set_option maxHeartbeats 4000000 in
theorem last_any (w : World) (b0 g n c : Nat) (A : Option Addr) (l : List Int) (hw : Win w b0 g A n c l) (N : Int) (K : Nat) (hK : (K : Int) = max 0 (min N ((min n 32768 : Nat) : Int))) :
    Calls Try.prog 17 #[.pointer (some ⟨g, 0, none⟩), .int .i64 N] w (LastPost w l K) := by
  obtain ⟨q, hq⟩ : ∃ q : Int, ((min n 32768 : Nat) : Int) = q := ⟨_, rfl⟩
  have hqn : 0 ≤ q ∧ q ≤ n ∧ (n : Int) ≤ 65536 := by have := hw.len; have := hw.n_eq; omega
  have hnl := Lib.hid hw.n_eq
  rw [hq] at hK
  have HQ := Lib.hid hq
  clear hq
  have c0 := hw.cell.cell (i := 0) (by omega)
  have hgl := hw.cell.lt
  obtain ⟨i0, hi, hz0, hz1, hz2⟩ := info_parts wbyte_info
  have Hi := Lib.hid hi
  have Hz0 := Lib.hid hz0
  have Hz1 := Lib.hid hz1
  have Hz2 := Lib.hid hz2
  clear hi hz0 hz1 hz2
  by_cases hK0 : K = 0
  · subst hK0
    have hnone : LastPost w l 0 (.returned (.slice none 0 0)) w := ⟨none, 0, rfl, by rw [Nat.sub_zero, List.drop_length]; exact OwnI.nil_, Below.refl _ _⟩
    have hN1 : N < 1 ∨ q = 0 := by omega
    by_cases hNq : N < q
    · have hN2 : N < 1 := by omega
      clear hK hN1
      go_enter Try.func17, Try.ntmps17
      go_wp2_with fail
      refine (winLen_any _ _ _ _ _ _ _ hw).mono ?_
      rintro e w' ⟨rfl, rfl⟩
      rw [HQ.out]
      go_wp2
      go_ret
      exact hnone
    · have hN2 : q < 1 := by omega
      clear hK hN1
      go_enter Try.func17, Try.ntmps17
      go_wp2_with fail
      refine (winLen_any _ _ _ _ _ _ _ hw).mono ?_
      rintro e w' ⟨rfl, rfl⟩
      rw [HQ.out]
      go_wp2
      all_goals go_ret
      all_goals exact hnone
  · have hK1 : 1 ≤ (K : Int) ∧ (K : Int) ≤ n := by omega
    obtain ⟨g2, rfl⟩ := hw.own.2.addr (by omega)
    have hcap := hw.own.2.capLe
    obtain ⟨P, hP⟩ : ∃ P : Nat, n - K = P := ⟨_, rfl⟩
    have hwr : IntKind.i64.wrap ((n : Int) - (K : Int)) = (P : Int) := by rw [IntWalk.i64_in _ (by omega)]; omega
    have hPb : (0 : Int) ≤ P ∧ (P : Int) < n ∧ (P : Int) < c := by omega
    have hPn : P < n ∧ P ≤ n ∧ P ≤ c := by omega
    have hne : ¬ c = P := by omega
    have hnp : n - P = K := by omega
    have HP := Lib.hid hP
    have hfin : Hid (l.drop P = l.drop (l.length - K)) := by show _ = _; rw [← HP.out, ← hnl.out]
    have hsrc := hw.own.rd.cut (j := P) (by omega) (A' := some ⟨g2, P, none⟩) (fun _ => by rw [Option.map_some, addr0])
    rw [hnp] at hsrc
    clear hP hK0
    have hcs : N = (K : Int) ∧ N < q ∨ q = (K : Int) ∧ q < N ∨ q = (K : Int) ∧ N = q := by omega
    clear hK
    rcases hcs with ⟨rfl, h⟩ | ⟨rfl, h⟩ | ⟨rfl, rfl⟩
    · go_enter Try.func17, Try.ntmps17
      go_wp2_with fail
      refine (winLen_any _ _ _ _ _ _ _ hw).mono ?_
      rintro e w' ⟨rfl, rfl⟩
      rw [HQ.out]
      go_wp2_with fail
      go_region_held3 (fun w' => w'.cell? ⟨g, 0, none⟩ = some (.slice (some ⟨g2, 0, none⟩) n c))
        (first | go_keep | (rw [World.cell?_of_block (hg5.block g (by simp; omega) (by simp [blkOf]; omega))]; go_keep))
        (first | ((refine step_app .u8 w.heap.size 5 i0 1 rfl _ _ _ rfl Try.underlying22 Hi.out Hz0.out Hz1.out Hz2.out rfl (OwnI.drew (OwnI.lit rfl [] _ (Nat.le_refl _) (by simp))) rfl (hsrc.alloc (Nat.le_refl _) _) (by omega) (by omega) (by simp) ?_); intro A5 c5 w5 hown5 hg5 hat5))
      go_wp2
      go_ret
      exact last_end hown5 hg5 hfin.out
    · go_enter Try.func17, Try.ntmps17
      go_wp2_with fail
      refine (winLen_any _ _ _ _ _ _ _ hw).mono ?_
      rintro e w' ⟨rfl, rfl⟩
      rw [HQ.out]
      go_wp2_with fail
      go_region_held3 (fun w' => w'.cell? ⟨g, 0, none⟩ = some (.slice (some ⟨g2, 0, none⟩) n c))
        (first | go_keep | (rw [World.cell?_of_block (hg5.block g (by simp; omega) (by simp [blkOf]; omega))]; go_keep))
        (first | ((refine step_app .u8 w.heap.size 5 i0 1 rfl _ _ _ rfl Try.underlying22 Hi.out Hz0.out Hz1.out Hz2.out rfl (OwnI.drew (OwnI.lit rfl [] _ (Nat.le_refl _) (by simp))) rfl (hsrc.alloc (Nat.le_refl _) _) (by omega) (by omega) (by simp) ?_); intro A5 c5 w5 hown5 hg5 hat5))
      go_wp2
      go_ret
      exact last_end hown5 hg5 hfin.out
    · go_enter Try.func17, Try.ntmps17
      go_wp2_with fail
      refine (winLen_any _ _ _ _ _ _ _ hw).mono ?_
      rintro e w' ⟨rfl, rfl⟩
      rw [HQ.out]
      go_wp2_with fail
      go_region_held3 (fun w' => w'.cell? ⟨g, 0, none⟩ = some (.slice (some ⟨g2, 0, none⟩) n c))
        (first | go_keep | (rw [World.cell?_of_block (hg5.block g (by simp; omega) (by simp [blkOf]; omega))]; go_keep))
        (first | ((refine step_app .u8 w.heap.size 5 i0 1 rfl _ _ _ rfl Try.underlying22 Hi.out Hz0.out Hz1.out Hz2.out rfl (OwnI.drew (OwnI.lit rfl [] _ (Nat.le_refl _) (by simp))) rfl (hsrc.alloc (Nat.le_refl _) _) (by omega) (by omega) (by simp) ?_); intro A5 c5 w5 hown5 hg5 hat5))
      go_wp2
      go_ret
      exact last_end hown5 hg5 hfin.out
end Go.Proofs.Ytbcmiahggfgjjaa
