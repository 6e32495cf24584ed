/-
  The walks of bits.Reader: Align, Read.
-/
import Derived.Test.YtjeedkjgjfbndaaProg
import Derived.Test.YtjeedkjgjfbndaaRdrB
namespace Go.Proofs.Ytjeedkjgjfbndaa
open Go.RowKit
set_option linter.unusedVariables false

theorem rdrAlign_nil (w : World) : Calls Try.prog 33 #[.pointer none] w fun e w' => e = .returned (.tuple #[]) ∧ w = w' := by
  go_enter Try.func33, Try.ntmps33
  go_wp2
  go_end0
  exact ⟨rfl, rfl⟩
set_option maxHeartbeats 1600000 in
theorem rdrAlign_any (w : World) (b0 g n c a : Nat) (A : Option Addr) (B : List Int) (hw : Rdr w b0 g A n c B a) (hlen : B.length ≤ 1000000000000) :
    Calls Try.prog 33 #[.pointer (some ⟨g, 0, none⟩)] w fun e w' => e = .returned (.tuple #[]) ∧ Rdr w' b0 g A n c B ((a + 7) / 8 * 8) ∧ Chg w w' (fun k => k = g) := by
  have c1 := hw.cell.cell (i := 1) (by omega)
  have z1 := hw.cell.frozen' (i := 1) (by omega)
  unfold rf at c1
  have hle := hw.le
  have haI : (0 : Int) ≤ a ∧ (a : Int) ≤ 8000000000000 := by omega
  have hv : Hid (((a : Int) + 7) / 8 * 8 = (((a + 7) / 8 * 8 : Nat) : Int)) := by show _ = _; omega
  have ha' : (a + 7) / 8 * 8 ≤ 8 * B.length := by omega
  clear hle
  go_enter Try.func33, Try.ntmps33
  go_wp2
  go_end0
  exact ⟨rfl, hw.move ha' (by rw [hv.out])⟩

theorem rdrRead_nil (w : World) (v : Value) : Calls Try.prog 23 #[.pointer none, v] w fun e w' => e = .returned (.slice none 0 0) ∧ w = w' := by
  go_enter Try.func23, Try.ntmps23
  go_wp2
  go_ret
  exact ⟨rfl, rfl⟩
theorem heap_alloc_size (w : World) (o : Obj) : (w.alloc o).heap.size = w.heap.size + 1 := by simp
def ReadPost (w : World) (b0 g n c a K : Nat) (A : Option Addr) (B : List Int) (e : Ending) (w' : World) : Prop :=
  ∃ A' c', e = .returned (.slice A' K c') ∧ OwnI .u8 w' w.heap.size 5 A' K c' ((B.drop ((a + 7) / 8)).take K) ∧ Rdr w' b0 g A n c B ((a + 7) / 8 * 8 + 8 * K) ∧ Chg w w' (fun k => k = g)

set_option maxRecDepth 100000 in
set_option maxHeartbeats 4000000 in
theorem rdrRead_any (w : World) (b0 g n c a : Nat) (A : Option Addr) (B : List Int) (hw : Rdr w b0 g A n c B a) (hlen : B.length ≤ 1000000000000) (N : Int) (K : Nat) (hK : (K : Int) = max 0 (min N ((n - (a + 7) / 8 : Nat) : Int))) :
    Calls Try.prog 23 #[.pointer (some ⟨g, 0, none⟩), .int .i64 N] w (ReadPost w b0 g n c a K A B) := by
  obtain ⟨a1, ha1⟩ : ∃ a1 : Nat, (a + 7) / 8 = a1 := ⟨_, rfl⟩
  have hn := hw.n_eq
  have hle := hw.le
  have ha1n : a1 ≤ n := by omega
  obtain ⟨q, hq⟩ : ∃ q : Nat, n - a1 = q := ⟨_, rfl⟩
  rw [ha1, hq] at hK
  have hqI : Hid (8 * n - (a + 7) / 8 * 8 = 8 * q) := by show _ = _; omega
  have hqI2 : Hid (8 * n - a1 * 8 = 8 * q) := by show _ = _; omega
  have hq8 : ((8 * q : Nat) : Int) / 8 = (q : Int) := by omega
  have hqb : (0 : Int) ≤ ((8 * q : Nat) : Int) ∧ (q : Int) ≤ 1000000000000 ∧ (0 : Int) ≤ (a1 : Int) ∧ (a1 : Int) ≤ 1000000000000 := by omega
  have ha18 : ((a1 * 8 : Nat) : Int) / 8 = (a1 : Int) := by omega
  have ha1b : (0 : Int) ≤ ((a1 * 8 : Nat) : Int) := by omega
  obtain ⟨i0, hi, hz0, hz1, hz2⟩ := info_parts rbyte_info
  have Hi := Lib.hid hi
  have Hz0 := Lib.hid hz0
  have Hz1 := Lib.hid hz1
  have Hz2 := Lib.hid hz2
  have HA1 := Lib.hid ha1
  have HQ := Lib.hid hq
  have HN := Lib.hid hn
  have hgb : g + 1 ≤ w.heap.size := hw.cell.lt
  clear hi hz0 hz1 hz2 ha1 hq hn hle
  by_cases hK0 : K = 0
  · subst hK0
    have hcs : (N < (q : Int) ∧ N < 1) ∨ ((q : Int) < N ∧ (q : Int) < 1) ∨ (N = (q : Int) ∧ (q : Int) < 1) := by omega
    clear hK
    rcases hcs with ⟨h, h1⟩ | ⟨h, h1⟩ | ⟨rfl, h1⟩
    all_goals
      go_enter Try.func23, Try.ntmps23
      go_wp2_with fail
      refine (rdrAlign_any _ _ _ _ _ _ _ _ hw hlen).mono ?_
      rintro e w1 ⟨rfl, hw1, hg1⟩
      go_wp2_with fail
      refine (rdrLeft_any _ _ _ _ _ _ _ _ hw1 hlen).mono ?_
      rintro e w2 ⟨rfl, q2, rfl⟩
      rw [hqI.out]
      go_wp2
      go_ret
      exact ⟨none, 0, rfl, OwnI.nil_, hw1.drewN q2, hg1.drewN q2⟩
  · have hK1 : (1 : Int) ≤ K ∧ (K : Int) ≤ (q : Int) := by omega
    have hcs : ((K : Int) < (q : Int) ∧ N = (K : Int)) ∨ ((K : Int) < N ∧ q = K) ∨ (N = (K : Int) ∧ q = K) := by omega
    clear hK hK0
    have hKq : a1 + K ≤ n := by have := HQ.out; omega
    have hcap := hw.own.2.capLe
    have hsl := run_slice_mid (P := Try.prog) 26 5 Try.underlying26 Hi.out Hz1.out A n c (a := a1) (b := a1 + K) (by omega) (by omega)
    rw [Nat.add_sub_cancel_left] at hsl
    have hsl2 : ∀ W, (Instr.slice 26 (.slice A n c) (some (.int .i64 (a1 : Int))) (some (.int .i64 ((a1 : Int) + (K : Int)))) none).run Try.prog W = .ok (.slice (cutA A c a1) K (c - a1)) W := fun W => by have := hsl W; rwa [Int.natCast_add] at this
    have hrd := ((hw.own.rd.cutA ha1n hcap).pre (j := K) (by omega)).more (B' := w.heap.size) (Nat.le_refl _)
    have hae : a1 * 8 + 8 * K ≤ 8 * B.length := by have := HN.out; omega
    have hsep : ∀ ad, cutA A c a1 = some ad → ¬ ad.block = g := fun ad e h => hw.apart (by
      unfold cutA at e
      split at e
      · rw [e]; simp [blkOf, h]
      · cases A with
        | none => simp at e
        | some x => simp at e; subst e; rw [addr_block] at h; simp [blkOf, h])
    have HH : Hid ((a + 7) / 8 * 8 = a1 * 8) := by show _ = _; rw [HA1.out]
    have hKm : K ≤ 1000000000000 := by have := HN.out; omega
    clear hsl
    rcases hcs with ⟨h, rfl⟩ | ⟨h, rfl⟩ | ⟨rfl, rfl⟩
    · go_enter Try.func23, Try.ntmps23
      go_wp2_with fail
      refine (rdrAlign_any _ _ _ _ _ _ _ _ hw hlen).mono ?_
      rintro e w1 ⟨rfl, hw1, hg1⟩
      rw [HH.out] at hw1
      go_wp2_with fail
      refine (rdrLeft_any _ _ _ _ _ _ _ _ hw1 hlen).mono ?_
      rintro e w2 ⟨rfl, q2, rfl⟩
      rw [hqI2.out]
      have hw2 := hw1.drewN q2
      have c1 := hw2.cell.cell (i := 1) (by omega)
      have z1 := hw2.cell.frozen' (i := 1) (by omega)
      unfold rf at c1
      obtain ⟨hw3, hg3⟩ := hw2.move hae (v := .int .i64 ((a1 : Int) * 8 + 8 * (K : Int))) (by simp)
      have c03 := (hw3.cell.alloc (.cells #[] 5)).cell (i := 0) (by omega)
      unfold rf at c03
      have hgw : Chg w ((w1.drewN q2).setCell ⟨g, 1, none⟩ (.int .i64 ((a1 : Int) * 8 + 8 * (K : Int)))) (fun k => k = g) := (hg1.drewN q2).trans hg3 fun k hk => .inl hk
      have hrd3 := (hgw.rdI hrd (Nat.le_refl _) (fun h0 ad e h => hsep ad e h)).alloc hgw.size (.cells #[] 5)
      have hsz3 := hgw.size
      have hgl3 := hw3.cell.lt
      go_wp2_with (at_builtin; (refine wpList_app .u8 w.heap.size 5 i0 1 rfl (.tmp 31) (.tmp 40) _ rfl Try.underlying26 Hi.out Hz0.out Hz1.out Hz2.out rfl (OwnI.lit (by simp [World.setCell]) [] _ hsz3 (by simp)) rfl hrd3 (by omega) (by omega) (by rw [Go.Proofs.Ytjeedkjgjfbndaa.heap_alloc_size]; omega) ?_)
                   intro A5 c5 w5 hown5 hg5 hat5)
      rw [Nat.zero_add, List.nil_append] at hown5
      go_ret
      refine ⟨A5, c5, rfl, by rw [HA1.out]; exact hown5, ?_, ?_⟩
      · rw [HH.out]
        exact (hw3.keeps ((Below.refl _ _).alloc (Nat.le_refl _) (.cells #[] 5))).chg (S := fun k => some k = blkOf (some (⟨w1.heap.size, 0, none⟩ : Addr))) ((Chg.refl _ _).grown hg5 fun q hq => .inl hq.symm) (fun k hk h => by have := (hw3.foot_lo hk).2; simp [World.setCell] at this; simp [blkOf] at h; omega)
      · exact (hgw.alloc _).grown hg5 fun q hq => by simp [blkOf] at hq; simp [World.setCell] at hsz3; exact .inr (by omega)
    · go_enter Try.func23, Try.ntmps23
      go_wp2_with fail
      refine (rdrAlign_any _ _ _ _ _ _ _ _ hw hlen).mono ?_
      rintro e w1 ⟨rfl, hw1, hg1⟩
      rw [HH.out] at hw1
      go_wp2_with fail
      refine (rdrLeft_any _ _ _ _ _ _ _ _ hw1 hlen).mono ?_
      rintro e w2 ⟨rfl, q2, rfl⟩
      rw [hqI2.out]
      have hw2 := hw1.drewN q2
      have c1 := hw2.cell.cell (i := 1) (by omega)
      have z1 := hw2.cell.frozen' (i := 1) (by omega)
      unfold rf at c1
      obtain ⟨hw3, hg3⟩ := hw2.move hae (v := .int .i64 ((a1 : Int) * 8 + 8 * (q : Int))) (by simp)
      have c03 := (hw3.cell.alloc (.cells #[] 5)).cell (i := 0) (by omega)
      unfold rf at c03
      have hgw : Chg w ((w1.drewN q2).setCell ⟨g, 1, none⟩ (.int .i64 ((a1 : Int) * 8 + 8 * (q : Int)))) (fun k => k = g) := (hg1.drewN q2).trans hg3 fun k hk => .inl hk
      have hrd3 := (hgw.rdI hrd (Nat.le_refl _) (fun h0 ad e h => hsep ad e h)).alloc hgw.size (.cells #[] 5)
      have hsz3 := hgw.size
      have hgl3 := hw3.cell.lt
      go_wp2_with (at_builtin; (refine wpList_app .u8 w.heap.size 5 i0 1 rfl (.tmp 31) (.tmp 40) _ rfl Try.underlying26 Hi.out Hz0.out Hz1.out Hz2.out rfl (OwnI.lit (by simp [World.setCell]) [] _ hsz3 (by simp)) rfl hrd3 (by omega) (by omega) (by rw [Go.Proofs.Ytjeedkjgjfbndaa.heap_alloc_size]; omega) ?_)
                   intro A5 c5 w5 hown5 hg5 hat5)
      rw [Nat.zero_add, List.nil_append] at hown5
      go_ret
      refine ⟨A5, c5, rfl, by rw [HA1.out]; exact hown5, ?_, ?_⟩
      · rw [HH.out]
        exact (hw3.keeps ((Below.refl _ _).alloc (Nat.le_refl _) (.cells #[] 5))).chg (S := fun k => some k = blkOf (some (⟨w1.heap.size, 0, none⟩ : Addr))) ((Chg.refl _ _).grown hg5 fun q hq => .inl hq.symm) (fun k hk h => by have := (hw3.foot_lo hk).2; simp [World.setCell] at this; simp [blkOf] at h; omega)
      · exact (hgw.alloc _).grown hg5 fun q hq => by simp [blkOf] at hq; simp [World.setCell] at hsz3; exact .inr (by omega)
    · go_enter Try.func23, Try.ntmps23
      go_wp2_with fail
      refine (rdrAlign_any _ _ _ _ _ _ _ _ hw hlen).mono ?_
      rintro e w1 ⟨rfl, hw1, hg1⟩
      rw [HH.out] at hw1
      go_wp2_with fail
      refine (rdrLeft_any _ _ _ _ _ _ _ _ hw1 hlen).mono ?_
      rintro e w2 ⟨rfl, q2, rfl⟩
      rw [hqI2.out]
      have hw2 := hw1.drewN q2
      have c1 := hw2.cell.cell (i := 1) (by omega)
      have z1 := hw2.cell.frozen' (i := 1) (by omega)
      unfold rf at c1
      obtain ⟨hw3, hg3⟩ := hw2.move hae (v := .int .i64 ((a1 : Int) * 8 + 8 * (q : Int))) (by simp)
      have c03 := (hw3.cell.alloc (.cells #[] 5)).cell (i := 0) (by omega)
      unfold rf at c03
      have hgw : Chg w ((w1.drewN q2).setCell ⟨g, 1, none⟩ (.int .i64 ((a1 : Int) * 8 + 8 * (q : Int)))) (fun k => k = g) := (hg1.drewN q2).trans hg3 fun k hk => .inl hk
      have hrd3 := (hgw.rdI hrd (Nat.le_refl _) (fun h0 ad e h => hsep ad e h)).alloc hgw.size (.cells #[] 5)
      have hsz3 := hgw.size
      have hgl3 := hw3.cell.lt
      go_wp2_with (at_builtin; (refine wpList_app .u8 w.heap.size 5 i0 1 rfl (.tmp 31) (.tmp 40) _ rfl Try.underlying26 Hi.out Hz0.out Hz1.out Hz2.out rfl (OwnI.lit (by simp [World.setCell]) [] _ hsz3 (by simp)) rfl hrd3 (by omega) (by omega) (by rw [Go.Proofs.Ytjeedkjgjfbndaa.heap_alloc_size]; omega) ?_)
                   intro A5 c5 w5 hown5 hg5 hat5)
      rw [Nat.zero_add, List.nil_append] at hown5
      go_ret
      refine ⟨A5, c5, rfl, by rw [HA1.out]; exact hown5, ?_, ?_⟩
      · rw [HH.out]
        exact (hw3.keeps ((Below.refl _ _).alloc (Nat.le_refl _) (.cells #[] 5))).chg (S := fun k => some k = blkOf (some (⟨w1.heap.size, 0, none⟩ : Addr))) ((Chg.refl _ _).grown hg5 fun q hq => .inl hq.symm) (fun k hk h => by have := (hw3.foot_lo hk).2; simp [World.setCell] at this; simp [blkOf] at h; omega)
      · exact (hgw.alloc _).grown hg5 fun q hq => by simp [blkOf] at hq; simp [World.setCell] at hsz3; exact .inr (by omega)
end Go.Proofs.Ytjeedkjgjfbndaa
