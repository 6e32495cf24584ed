/-
  The walk of table.Write.
-/
import Derived.Test.YtckhkkjdibcclaaProg
import Derived.Test.YtckhkkjdibcclaaTab
import Derived.Test.YtckhkkjdibcclaaWtrB
import Derived.Test.YtckhkkjdibcclaaRev
import Derived.Test.YtckhkkjdibcclaaSymP
namespace Go.Proofs.Ytckhkkjdibcclaa
open Go.RowKit
set_option linter.unusedVariables false

theorem twrite_nil (w : World) (u v : Value) : Calls Try.prog 54 #[.pointer none, u, v] w fun e w' => e = .returned (.bool false) ∧ w = w' := by
  go_enter Try.func54, Try.ntmps54
  go_wp2
  go_ret
  exact ⟨rfl, rfl⟩
set_option maxHeartbeats 1600000 in
theorem twrite_not (w : World) (t0 B gt : Nat) (l : List Int) (u : Value) (s : Int) (ht : Tab w t0 B gt l) (hl : l.length ≤ 288) (hs : s < 0 ∨ (l.length : Int) ≤ s ∨ ix l s.toNat = 0) :
    Calls Try.prog 54 #[.pointer (some ⟨gt, 0, none⟩), u, .int .i64 s] w fun e w' => e = .returned (.bool false) ∧ w = w' := by
  obtain ⟨Al, Ac, As, cl, cc, cs, har, hral, hrac, hras, -⟩ := ht
  have k0 := har.cell (i := 0) (by omega)
  have e0 : tbF Al l.length cl Ac l.length cc (cf l 16 0) As (srt l 15).length cs (lgT l 15 : Nat) 0 = .slice Al l.length cl := rfl
  rw [e0] at k0
  have hlI : (0 : Int) ≤ (l.length : Int) ∧ (l.length : Int) ≤ 288 := by omega
  have hcs : s < 0 ∨ (¬ s < 0 ∧ (l.length : Int) ≤ s) ∨ (0 ≤ s ∧ s < (l.length : Int) ∧ ix l s.toNat = 0) := by omega
  clear e0 hs
  rcases hcs with h | ⟨h, h1⟩ | ⟨h, h1, h2⟩
  · go_enter Try.func54, Try.ntmps54
    go_wp2
    go_ret
    exact ⟨rfl, rfl⟩
  · go_enter Try.func54, Try.ntmps54
    go_wp2
    go_ret
    exact ⟨rfl, rfl⟩
  · obtain ⟨k, rfl⟩ := Int.eq_ofNat_of_zero_le h
    have hkl : k < l.length := by omega
    obtain ⟨ad, rfl, hbl, c1⟩ := hral.at_ hkl
    have e2 : ix l k = 0 := by simpa using h2
    rw [e2] at c1
    clear h2 e2
    go_enter Try.func54, Try.ntmps54
    go_wp2
    go_ret
    exact ⟨rfl, rfl⟩

def TWritePost (w : World) (b0 g : Nat) (A : Option Addr) (L : List Int) (e : Ending) (w' : World) : Prop :=
  ∃ A' n' c', e = .returned (.bool true) ∧ Wtr w' b0 g A' n' c' L ∧ Chg w w' (foot A g) ∧ (∀ k, blkOf A' = some k → blkOf A = some k ∨ w.heap.size ≤ k)
set_option maxHeartbeats 1600000 in
theorem twrite_ok (w : World) (t0 B gt b0 g n c : Nat) (A : Option Addr) (l L : List Int) (s : Nat) (ht : Tab w t0 B gt l) (hl : l.length ≤ 288) (hw : Wtr w b0 g A n c L) (hlen : L.length ≤ 4000000000000) (hs : s < l.length) (h1 : 1 ≤ ix l s) (h15 : ix l s ≤ 15) :
    Calls Try.prog 54 #[.pointer (some ⟨gt, 0, none⟩), .pointer (some ⟨g, 0, none⟩), .int .i64 s] w (TWritePost w b0 g A (L ++ symBits l s)) := by
  obtain ⟨Al, Ac, As, cl, cc, cs, har, hral, hrac, hras, -⟩ := ht
  have k0 := har.cell (i := 0) (by omega)
  have k1 := har.cell (i := 1) (by omega)
  have e0 : tbF Al l.length cl Ac l.length cc (cf l 16 0) As (srt l 15).length cs (lgT l 15 : Nat) 0 = .slice Al l.length cl := rfl
  have e1 : tbF Al l.length cl Ac l.length cc (cf l 16 0) As (srt l 15).length cs (lgT l 15 : Nat) 1 = .slice Ac l.length cc := rfl
  rw [e0] at k0
  rw [e1] at k1
  have hlI : (0 : Int) ≤ (s : Int) ∧ (s : Int) < (l.length : Int) ∧ (l.length : Int) ≤ 288 := by omega
  obtain ⟨ad, rfl, hbl, c0⟩ := hral.at_ hs
  obtain ⟨ad1, rfl, hbl1, c1⟩ := hrac.at_ hs
  rw [ix_codesOf l hl hs] at c1
  obtain ⟨N, hN⟩ := Int.eq_ofNat_of_zero_le (show 0 ≤ ix l s by omega)
  have hN1 : 1 ≤ (N : Int) ∧ (N : Int) ≤ 15 := by omega
  have hsb : symBits l s = ofN (revN (codeAt l s) N) N := by unfold symBits; rw [hN]; rfl
  obtain ⟨C, hC⟩ : ∃ C, codeAt l s = C := ⟨_, rfl⟩
  have hCb : (0 : Int) ≤ C ∧ (C : Int) < 4294967296 := by
    rw [← hC]; unfold codeAt
    have h2 := nxt_bd l hl (v := (ix l s).toNat) (by omega)
    have h3 := cnt_le l s (ix l s).toNat
    split <;> omega
  rw [hN] at c0
  rw [hC] at c1 hsb
  have hRb := revN_bd' C N
  have hp := pow_mono2 (show N ≤ 15 by omega)
  have hp15 : (2 : Int) ^ 15 = 32768 := rfl
  obtain ⟨X, hX⟩ : ∃ X, revN C N = X := ⟨_, rfl⟩
  rw [hX] at hRb hsb
  have hXb : 0 ≤ X ∧ X < 4294967296 := by omega
  have HX := Lib.hid hX
  have HSB := Lib.hid hsb
  have hN32 : (N : Int) ≤ 32 := by omega
  have hN0 : ((N : Int) == 0) = false := by simp; omega
  clear hN hC hX hsb hRb hp hp15 h1 h15 e0 e1
  go_enter Try.func54, Try.ntmps54
  go_wp2_with fail
  refine (reverse_ok _ C N hCb ⟨hN1.1, hN32⟩).mono ?_
  rintro e w1 ⟨rfl, rfl⟩
  rw [HX.out]
  go_wp2_with fail
  refine (put_ok _ _ _ _ _ _ _ hw X N hXb hN32 hlen).mono ?_
  rintro e w2 ⟨A', n', c', rfl, hw2, hg2, hf2⟩
  go_wp2
  go_ret
  rw [HSB.out]
  exact ⟨A', n', c', rfl, hw2, hg2, hf2⟩
end Go.Proofs.Ytckhkkjdibcclaa
