/-
  Words for the laws of layer 10: 'sound', a writer of the law's own.
-/
import Derived.Test.YtckhkkjdibcclaaPk27
import Derived.Test.YtckhkkjdibcclaaRfF
import Derived.Test.YtckhkkjdibcclaaPk5
import Derived.Test.YtckhkkjdibcclaaPk9
import Derived.Test.YtckhkkjdibcclaaBkC
namespace Go.Proofs.Ytckhkkjdibcclaa
open Go.RowKit
set_option linter.unusedVariables false
set_option maxRecDepth 100000 in
theorem sound10_any (w : World) (A : Option Addr) (n c : Nat) (l : List Tok) (hr : RdT w w.heap.size A n l) (hn : (n : Int) ≤ 1000000000000) :
    Calls Try.prog 7 #[.slice A n c] w fun e w' => e = .returned (.bool (decide ((expand [] l).1 = 0))) ∧ Below w.heap.size w w' := by
  have HE := Lib.hid (rexpand_any w A n c l hr hn)
  clear hr
  go_enter Try.func7, Try.ntmps7
  go_wp2_with fail
  refine HE.out.mono ?_
  rintro e w1 ⟨A1, n1, c1, rfl, ho, hb⟩
  have HB := Lib.hid hb
  clear ho hb
  go_wp2_with fail
  go_ret
  exact ⟨ret_bool (by rw [Bool.eq_iff_iff]; simp), HB.out⟩
theorem bits_bel (w : World) (b0 g n c : Nat) (A : Option Addr) (L : List Int) (hw : Wtr w b0 g A n c L) (hlen : L.length ≤ 4000000000000) :
    Calls Try.prog 17 #[.pointer (some ⟨g, 0, none⟩)] w fun e w' => e = .returned (.int .i64 L.length) ∧ Below w.heap.size w w' :=
  (wtrBits_any w b0 g n c A L hw hlen).mono fun e w' h => ⟨h.1, by obtain ⟨q, rfl⟩ := h.2; exact bel_drewN (Below.refl _ w) q⟩
theorem expand_sound {l : List Tok} : ∀ {out : List Int}, (expand out l).1 = 0 → ∀ t ∈ l, soundT t := by
  induction l with
  | nil => intro out _ t ht; simp at ht
  | cons k l ih =>
    intro out h t ht
    rw [expand_cons] at h
    by_cases h0 : (step out k).1 = 0
    · rw [if_pos h0] at h
      rcases List.mem_cons.1 ht with rfl | ht
      · unfold step at h0
        by_cases hs : soundT t
        · exact hs
        · rw [if_pos hs] at h0; simp at h0
      · exact ih h t ht
    · rw [if_neg h0] at h; exact absurd h h0
/-- a writer of the law's own: nothing else lies in its blocks -/
structure LwS (w w2 wx : World) (b0 g : Nat) (L : List Int) : Prop where
  bk : BkS w2 wx b0 g none L
  lo : w.heap.size ≤ w2.heap.size
  bel : Below w.heap.size w w2
  glo : w.heap.size ≤ g
section
variable {w w2 wx w' : World} {b0 g : Nat} {L L' : List Int}
theorem LwS.below (h : LwS w w2 wx b0 g L) : Below w.heap.size w wx := h.bel.trans (h.bk.chg.below (fun k hk => by
  rcases hk with hk | hk
  · rw [hk]; exact h.glo
  · simp [blkOf] at hk) h.lo)
theorem LwS.keeps (h : LwS w w2 wx b0 g L) (hb : Below wx.heap.size wx w') : LwS w w2 w' b0 g L := ⟨h.bk.keeps hb, h.lo, h.bel, h.glo⟩
theorem LwS.get (h : LwS w w2 wx b0 g L) : ∃ A n c, Wtr wx b0 g A n c L ∧ (∀ k, foot A g k → w.heap.size ≤ k) ∧ ∀ (W : World) (L' : List Int), BkS wx W b0 g A L' → LwS w w2 W b0 g L' := by
  obtain ⟨⟨A, n, c, h1, h2⟩, h3⟩ := h.bk
  refine ⟨A, n, c, h1, fun k hk => ?_, fun W L' hb => ⟨BkS.step h3 h2 hb, h.lo, h.bel, h.glo⟩⟩
  rcases hk with hk | hk
  · rw [hk]; exact h.glo
  · rcases h2 k hk with h4 | h4
    · simp [blkOf] at h4
    · exact Nat.le_trans h.lo h4
end
theorem BkS.of {w w' : World} {b0 g : Nat} {A : Option Addr} {L : List Int} {A' : Option Addr} {n' c' : Nat} (hw : Wtr w' b0 g A' n' c' L) (hc : Chg w w' (foot A g)) (hA : ∀ k, blkOf A' = some k → blkOf A = some k ∨ w.heap.size ≤ k) : BkS w w' b0 g A L := ⟨⟨A', n', c', hw, hA⟩, hc⟩
end Go.Proofs.Ytckhkkjdibcclaa
