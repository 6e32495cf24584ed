/-
  The walks of the library's Grow (of a nil slice) and Concat (of two lists).
-/
import Derived.Test.YtlgkiookobedcaaProg
import Derived.Test.YtlgkiookobedcaaZer
import Derived.Test.YtlgkiookobedcaaPk3
namespace Go.Proofs.Ytlgkiookobedcaa
open Go.RowKit
set_option linter.unusedVariables false
theorem lint_info : (Try.prog.info? 3).map (fun i => (i.zero, i.size, i.bytes)) = some (some (.int .i64 0), 1, 8) := by kernel_rfl
theorem OwnI.none_ {k : IntKind} {w : World} {b0 : Nat} {e : TypeId} {A : Option Addr} {n c : Nat} {l : List Int} (h : OwnI k w b0 e A n c l) : OwnI k w b0 e A 0 c [] := by
  refine ⟨rfl, ?_⟩
  rcases h.2 with ⟨h1, h2, h3⟩ | ⟨g, cur, r1, r2, r3, r4, r5, r6, r7⟩
  · exact .inl ⟨h1, rfl, h3⟩
  · exact .inr ⟨g, cur, r1, r2, r3, Nat.zero_le _, r5, r6, fun i hi => by omega⟩
def GrPost (w : World) (e : Ending) (w' : World) : Prop := ∃ A c, e = .returned (.slice A 0 c) ∧ OwnI .i64 w' w.heap.size 3 A 0 c [] ∧ Below w.heap.size w w'
set_option maxRecDepth 100000 in
set_option maxHeartbeats 1600000 in
theorem grow_any (w : World) (N : Nat) (hN : N ≤ 1000000) : Calls Try.prog 93 #[.slice none 0 0, .int .i64 N] w (GrPost w) := by
  obtain ⟨i0, hi, hz0, hz1, hz2⟩ := info_parts lint_info
  have Hi := Lib.hid hi
  have Hz0 := Lib.hid hz0
  have Hz1 := Lib.hid hz1
  have Hz2 := Lib.hid hz2
  have hNI : (0 : Int) ≤ N ∧ (N : Int) ≤ 1000000 := by omega
  have hsl0 := run_slice_to (P := Try.prog) 32 3 Try.underlying32 hi hz1 none 0 0 (j := 0) (by omega)
  obtain ⟨A2, d2, w2, hrun2, ho2, hg2, hat2⟩ := run_app_zeros (P := Try.prog) w .i64 w.heap.size 32 3 32 3 i0 8 .i64 .i64 Try.underlying32 Try.underlying3 hi hz0 hz1 hz2 (OwnI.nil_) N (by omega) (by omega) (Nat.le_refl _)
  have hsl2 := run_slice_to (P := Try.prog) 32 3 Try.underlying32 hi hz1 A2 (0 + N) d2 (j := 0) (by omega)
  have hb2 : Below w.heap.size w w2 := (Below.refl _ w).grown hg2 (Nat.le_refl _) (by simp [blkOf])
  have HO := Lib.hid (⟨ho2, hb2⟩ : _ ∧ _)
  clear hi hz0 hz1 hz2 hN ho2 hg2 hat2 hb2
  rcases Nat.eq_zero_or_pos N with hz | hp
  · subst hz
    go_enter Try.func93, Try.ntmps93
    go_wp2_with fail
    go_ret
    exact ⟨none, 0, rfl, OwnI.nil_, Below.refl _ _⟩
  · have hpI : (0 : Int) < N := by omega
    clear hp
    go_enter Try.func93, Try.ntmps93
    go_wp2_with (at_builtin; refine Lib.wpList_append_run _ rfl _ _ _ _ rfl _ _ rfl rfl _ _ hrun2 ?_)
    go_ret
    exact ⟨A2, d2, rfl, HO.out.1.none_, HO.out.2⟩
def CcA (w : World) (n1 n2 : Nat) (k : Nat) (v3 v11 : Value) (wr : World) : Prop :=
  ∃ i s : Nat, v3 = .int .i64 s ∧ v11 = .int .i64 i ∧ wr = w ∧ Hid ((i = 0 ∧ s = 0) ∨ (i = 1 ∧ s = n1) ∨ (i = 2 ∧ s = n1 + n2)) ∧ Hid (k = 2 - i)
def CcB (w : World) (l1 l2 : List Int) (k : Nat) (v6 v27 : Value) (wr : World) : Prop :=
  ∃ (i m c : Nat) (A : Option Addr) (L : List Int), v6 = .slice A m c ∧ v27 = .int .i64 i ∧ OwnI .i64 wr w.heap.size 3 A m c L ∧ Below w.heap.size w wr ∧ Hid ((i = 0 ∧ L = []) ∨ (i = 1 ∧ L = l1) ∨ (i = 2 ∧ L = l1 ++ l2)) ∧ Hid (k = 2 - i)
def MkI (w : World) (L : List Int) (e : Ending) (w' : World) : Prop := ∃ A n c, e = .returned (.slice A n c) ∧ OwnI .i64 w' w.heap.size 3 A n c L ∧ Below w.heap.size w w'
set_option maxRecDepth 100000 in
set_option maxHeartbeats 4000000 in
theorem concat_any (w : World) (g B : Nat) (hg : g < w.heap.size) (A1 A2 : Option Addr) (n1 c1 n2 c2 : Nat) (l1 l2 : List Int) (hc0 : w.cell? ⟨g, 0, none⟩ = some (.slice A1 n1 c1)) (hc1 : w.cell? ⟨g, 1, none⟩ = some (.slice A2 n2 c2)) (h1 : RdI .i64 w B A1 n1 l1) (h2 : RdI .i64 w B A2 n2 l2) (hB : B ≤ w.heap.size) (hn1 : n1 ≤ 400000) (hn2 : n2 ≤ 400000) :
    Calls Try.prog 90 #[.slice (some ⟨g, 0, none⟩) 2 2] w (MkI w (l1 ++ l2)) := by
  obtain ⟨i0, hi, hz0, hz1, hz2⟩ := info_parts lint_info
  have Hi := Lib.hid hi
  have Hz0 := Lib.hid hz0
  have Hz1 := Lib.hid hz1
  have Hz2 := Lib.hid hz2
  have hnI : (0 : Int) ≤ n1 ∧ (n1 : Int) ≤ 400000 ∧ (0 : Int) ≤ n2 ∧ (n2 : Int) ≤ 400000 := by omega
  have H1 := Lib.hid h1
  have H2 := Lib.hid h2
  have HB := Lib.hid hB
  have HG := Lib.hid hg
  have HC := Lib.hid (⟨hc0, hc1⟩ : _ ∧ _)
  clear hi hz0 hz1 hz2 h1 h2 hB hn1 hn2 hg hc0 hc1
  go_enter Try.func90, Try.ntmps90
  go_wp2_with fail
  go_loopg [3, 11] 2 (CcA w n1 n2)
  case atStart => exact ⟨0, 0, rfl, rfl, rfl, .inl ⟨rfl, rfl⟩, rfl⟩
  case round =>
    obtain ⟨i, s, rfl, rfl, hw, hcs, hk⟩ := hrel
    obtain rfl := hw.symm
    obtain ⟨d0, d1⟩ := HC.out
    rcases hcs.out with ⟨rfl, rfl⟩ | ⟨rfl, rfl⟩ | ⟨rfl, rfl⟩
    · clear hcs
      go_wp2_with fail
      go_roundg 1
      case measure => have := hk.out; omega
      case rel => exact ⟨1, n1, rfl, rfl, rfl, .inr (.inl ⟨rfl, rfl⟩), rfl⟩
    · obtain ⟨t, ht⟩ : ∃ t, s + n2 = t := ⟨_, rfl⟩
      have hst : (s : Int) + (n2 : Int) = (t : Int) := by omega
      have htI : (0 : Int) ≤ t ∧ (t : Int) ≤ 800000 := by omega
      have HT := Lib.hid ht
      clear hcs ht
      go_wp2_with fail
      go_roundg 0
      case measure => have := hk.out; omega
      case rel => exact ⟨2, t, rfl, rfl, rfl, .inr (.inr ⟨rfl, HT.out.symm⟩), rfl⟩
    · obtain ⟨t, ht⟩ : ∃ t, n1 + n2 = t := ⟨_, rfl⟩
      have htb : t ≤ 1000000 := by omega
      rw [ht]
      have HGR := Lib.hid (grow_any w t htb)
      clear hcs ht htb
      go_wp2_with fail
      refine HGR.out.mono ?_
      rintro e w5 ⟨A, c, rfl, ho, hb⟩
      have hini : Hid (CcB w l1 l2 2 (.slice A 0 c) (.int .i64 0) w5) := ⟨0, 0, c, A, [], rfl, rfl, ho, hb, .inl ⟨rfl, rfl⟩, rfl⟩
      clear ho hb d0 d1
      go_wp2_with fail
      go_loopg [6, 27] 2 (CcB w l1 l2)
      case atStart => exact hini.out
      case round =>
        clear hini
        obtain ⟨i, m, c, A, L, rfl, rfl, ho, hb, hcs, hk2⟩ := hrel
        have hm := ho.1
        have e0 : wr.cell? ⟨g, 0, none⟩ = some (.slice A1 n1 c1) := (hb.cell (p := ⟨g, 0, none⟩) HG.out).trans HC.out.1
        have e1 : wr.cell? ⟨g, 1, none⟩ = some (.slice A2 n2 c2) := (hb.cell (p := ⟨g, 1, none⟩) HG.out).trans HC.out.2
        have r1 := (H1.out.more HB.out).below hb
        have r2 := (H2.out.more HB.out).below hb
        have hbs := hb.size
        have q1 := H1.out.1
        have q2 := H2.out.1
        have HM := Lib.hid (⟨hm, q1, q2⟩ : _ ∧ _ ∧ _)
        rcases hcs.out with ⟨rfl, rfl⟩ | ⟨rfl, rfl⟩ | ⟨rfl, rfl⟩
        · have hmb : m + n1 ≤ 1000000000000 := by simp at hm; omega
          clear hcs hm q1 q2
          go_wp2_with (at_builtin; (refine wpList_app .i64 w.heap.size 3 i0 8 rfl (.tmp 31) (.tmp 32) _ rfl Try.underlying32 Hi.out Hz0.out Hz1.out Hz2.out rfl ho rfl r1 hmb (by omega) hbs ?_); intro A4 d4 w4 hown4 hg4 hat4)
          go_roundg 1
          case measure => have := hk2.out; omega
          case rel => exact ⟨1, m + n1, d4, A4, l1, rfl, rfl, hown4, hb.grown hg4 hbs (fun q hq => (ho.2.lt hq).1), .inr (.inl ⟨rfl, rfl⟩), rfl⟩
        · have hmb : m + n2 ≤ 1000000000000 := by omega
          clear hcs hm q1 q2
          go_wp2_with (at_builtin; (refine wpList_app .i64 w.heap.size 3 i0 8 rfl (.tmp 31) (.tmp 32) _ rfl Try.underlying32 Hi.out Hz0.out Hz1.out Hz2.out rfl ho rfl r2 hmb (by omega) hbs ?_); intro A4 d4 w4 hown4 hg4 hat4)
          go_roundg 0
          case measure => have := hk2.out; omega
          case rel => exact ⟨2, m + n2, d4, A4, L ++ l2, rfl, rfl, hown4, hb.grown hg4 hbs (fun q hq => (ho.2.lt hq).1), .inr (.inr ⟨rfl, rfl⟩), rfl⟩
        · clear hcs hm q1 q2 e0 e1 r1 r2
          go_wp2_with fail
          go_ret
          exact ⟨A, m, c, rfl, ho, hb⟩
end Go.Proofs.Ytlgkiookobedcaa
