/-
  A zlib decoder beside others; the walk of the statements' own answers, layer 14.
-/
import Derived.Test.YtjeedkjgjfbndaaZlF
namespace Go.Proofs.Ytjeedkjgjfbndaa
open Go.RowKit
set_option linter.unusedVariables false
theorem ZSt.chg {w w' : World} {b0 g : Nat} {E : Nat → Prop} {x a : List Int} {m : Nat} {en hd : Bool} {F : Nat → Prop} (h : ZSt w b0 g E x a m en hd) (hc : Chg w w' F) (hF : ∀ k, F k → ¬ E k) : ZSt w' b0 g E x a m en hd := by
  obtain ⟨c, Z, h1, h2, h3, h4, h5, rfl, h6⟩ := h
  exact ⟨c, Z, h1.chg hc (fun k hk => ⟨fun e => hF k hk (.inl e), fun e => hF k hk (.inr (.inl e))⟩) (fun k hk => ⟨(h1.cb k hk).1, Nat.lt_of_lt_of_le (h1.cb k hk).2 hc.size⟩) h1.cg (fun k hk => (h1.cA k hk).2), h2.aside hc (fun k hk => by
    by_cases e : c k = 0
    · exact e
    · exact absurd (.inr (.inr e)) (hF k hk)) ⟨rfl, rfl, rfl, rfl, rfl, rfl, rfl, rfl, rfl⟩, h3, h4, h5, rfl, h6⟩
theorem Ext.dis {b0 : Nat} {w w' : World} {E E' X : Nat → Prop} (h : Ext b0 w w' E E') (hx : ∀ k, X k → k < w.heap.size) (hd : ∀ k, E k → ¬ X k) : ∀ k, E' k → ¬ X k := fun k hk hX => by
  rcases h.2.2 k hk with h1 | h1
  · exact hd k h1 hX
  · have := hx k hX; omega
theorem zte_nil {x a : List Int} {m n : Nat} {en : Bool} {l : List Int} {r : Int} (h : ZtE x a m en n l r) (hz : zAll x m = []) (hn : 0 < n) : l = [] ∧ r = zE x m en := by
  obtain ⟨⟨t, ht⟩, h2⟩ := h
  rw [hz] at ht
  have hl : l = [] := by
    have : (a ++ l ++ t).length = 0 := by rw [← ht]; rfl
    simp at this
    exact this.2.1
  rcases h2 with ⟨_, h⟩ | ⟨_, _, ⟨h, _⟩ | ⟨_, h⟩⟩
  · rw [hl] at h; simp at h; omega
  · exact absurd hl h
  · exact ⟨hl, h⟩
theorem z14 : zE [120, 156, 3, 0, 0, 0, 0, 1] 5 true = 8 ∧ zAll [120, 156, 3, 0, 0, 0, 0, 1] 5 = [] := by
  have e : zFin [120, 156, 3, 0, 0, 0, 0, 1] 5 = IS.run 20 (start (bts [3, 0, 0, 0, 0, 1]) 5) := (IS.fin_run (n := 20) (by decide +kernel)).symm
  unfold zE zAll
  rw [e]
  constructor <;> decide +kernel
set_option maxRecDepth 100000 in
set_option maxHeartbeats 1600000 in
theorem answers14_any (w : World) : Calls Try.prog 5 #[] w fun e w' => e = .returned (.bool true) ∧ Below w.heap.size w w' := by
  go_enter Try.func5, Try.ntmps5
  go_wp2_with fail
  refine (znew_any w 5 5 (by decide)).mono ?_
  rintro e w1 ⟨g, E, rfl, h1, hb1⟩
  have hr1 := RdI.lit .u8 w1 [120, 156, 3, 0, 0, 0, 0, 1] 5
  have hba : Below w1.heap.size w1 (w1.alloc (.cells ([120, 156, 3, 0, 0, 0, 0, 1].map (Value.int .u8)).toArray 5)) := (Below.refl _ w1).alloc (Nat.le_refl _) _
  have h2 := h1.keeps hba
  have HF := Lib.hid (zfeed_head _ _ g E [] 5 h2 _ 8 8 _ [120, 156, 3, 0, 0, 0, 0, 1] hr1 (by decide) (by decide))
  have hbb := Lib.hid (hb1.trans (hba.mono hb1.size))
  clear h1 hr1 hba h2 hb1
  go_wp2_with fail
  refine HF.out.mono ?_
  rintro e w2 ⟨E2, rfl, h2, x2⟩
  have HE := Lib.hid (zend_any _ _ g E2 _ [] 5 true h2 rfl)
  have X2 := Lib.hid x2
  clear h2 x2
  go_wp2_with fail
  refine HE.out.mono ?_
  rintro e w3 ⟨rfl, h3, x3⟩
  have HT := Lib.hid (ztake_any _ _ g E2 _ [] 5 true true h3 (by decide) (by decide) 1 (by decide))
  have X3 := Lib.hid x3
  clear h3 x3
  go_wp2_with fail
  refine HT.out.mono ?_
  rintro e w4 ⟨A, k, cp, l, r, E4, rfl, h4, h5, h6, h7, h8⟩
  obtain ⟨rfl, hr⟩ := zte_nil h8 z14.2 (by decide)
  have hr8 : r = 8 := hr.trans z14.1
  have hfin : Hid (Below w.heap.size w w4) := (hbb.out.trans X2.out.1).trans (X3.out.1.trans h7.1)
  subst hr8
  clear h4 h5 h6 h7 h8 hr
  go_wp2_with fail
  go_ret
  exact ⟨rfl, hfin.out⟩
end Go.Proofs.Ytjeedkjgjfbndaa
