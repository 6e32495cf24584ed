/-
  The walk of block.Write: the kind that costs least is written.
-/
import Derived.Test.YtckhkkjdibcclaaPk27
import Derived.Test.YtckhkkjdibcclaaBkC
namespace Go.Proofs.Ytckhkkjdibcclaa
open Go.RowKit
set_option linter.unusedVariables false
/-- the least of f 0 .. f (k-1) that is not below 0, the first of equals: where, and what -/
def pickK (f : Nat → Int) : Nat → Int × Int
  | 0 => (-1, 0)
  | k + 1 => if 0 ≤ f k ∧ ((pickK f k).1 < 0 ∨ f k < (pickK f k).2) then ((k : Int), f k) else pickK f k
/-- what Cost answers -/
def cstK (toks : List Tok) (m : Nat) (k : Nat) : Int := if bkMay (k : Int) toks m = true then costB (k : Int) toks m else -1
theorem pickK_in (f : Nat → Int) : ∀ k, (pickK f k).1 = -1 ∨ ∃ i : Nat, i < k ∧ (pickK f k).1 = (i : Int) ∧ (pickK f k).2 = f i ∧ 0 ≤ f i
  | 0 => .inl rfl
  | k + 1 => by
    unfold pickK
    split
    · rename_i h
      exact .inr ⟨k, by omega, rfl, rfl, h.1⟩
    · rcases pickK_in f k with h | ⟨i, h1, h2⟩
      · exact .inl h
      · exact .inr ⟨i, by omega, h2⟩
theorem pickK_some (f : Nat → Int) : ∀ k i, i < k → 0 ≤ f i → 0 ≤ (pickK f k).1 ∧ (pickK f k).2 ≤ f i
  | 0, i, h, _ => by omega
  | k + 1, i, h, h0 => by
    unfold pickK
    have hin := pickK_in f k
    by_cases hi : i = k
    · subst hi
      split
      · exact ⟨by simp, Int.le_refl _⟩
      · rename_i h9
        rcases hin with h8 | ⟨j, _, h8, h7, _⟩ <;> omega
    · obtain ⟨p1, p2⟩ := pickK_some f k i (by omega) h0
      split
      · rename_i h9
        constructor
        · simp
        · show f k ≤ f i; omega
      · exact ⟨p1, p2⟩
theorem cst_bd {toks : List Tok} {m : Nat} (hlit : ∀ t ∈ toks, 0 ≤ t.lit ∧ t.lit < 256) (k : Nat) : -1 ≤ cstK toks m k ∧ cstK toks m k ≤ 60000000 := by
  unfold cstK
  by_cases h : bkMay (k : Int) toks m = true
  · rw [if_pos h]; have := cost_bd h hlit; omega
  · rw [if_neg h]; omega
theorem cst_may {toks : List Tok} {m k : Nat} (h : 0 ≤ cstK toks m k) : bkMay (k : Int) toks m = true := by
  unfold cstK at h
  by_cases h2 : bkMay (k : Int) toks m = true
  · exact h2
  · rw [if_neg h2] at h; omega
def WrPost (w : World) (b0 g : Nat) (A : Option Addr) (L raw : List Int) (toks : List Tok) (m : Nat) (last : Bool) (e : Ending) (w' : World) : Prop :=
  e = .returned (.int .i64 (pickK (cstK toks m) 3).1) ∧ (((pickK (cstK toks m) 3).1 = -1 ∧ Below w.heap.size w w') ∨ (0 ≤ (pickK (cstK toks m) 3).1 ∧ BkS w w' b0 g A (outB (pickK (cstK toks m) 3).1 toks raw last L)))
set_option maxRecDepth 100000 in
set_option maxHeartbeats 4000000 in
theorem bwrite_any (w : World) (b0 g n c : Nat) (A : Option Addr) (L : List Int) (hw : Wtr w b0 g A n c L) (At : Option Addr) (nt ct : Nat) (toks : List Tok) (hT : RdT w w.heap.size At nt toks) (hnt : (nt : Int) ≤ 4611686018427387904) (hsep : 0 < nt → ∀ ad, At = some ad → ¬ foot A g ad.block) (hlit : ∀ t ∈ toks, 0 ≤ t.lit ∧ t.lit < 256)
    (C : Option Addr) (m cr : Nat) (raw : List Int) (hr : RdI .u8 w w.heap.size C m raw) (hsepr : 0 < m → ∀ ad, C = some ad → ¬ foot A g ad.block) (hby : ∀ x ∈ raw, 0 ≤ x ∧ x < 256) (last : Bool) (hlen : L.length ≤ 2000000000000) :
    Calls Try.prog 24 #[.pointer (some ⟨g, 0, none⟩), .slice At nt ct, .slice C m cr, .bool last] w (WrPost w b0 g A L raw toks m last) := by
  have HH := Lib.hid (⟨hw, hT, hnt, hsep, hlit, hr, hsepr, hby, hlen⟩ : _ ∧ _ ∧ _ ∧ _ ∧ _ ∧ _ ∧ _ ∧ _ ∧ _)
  obtain ⟨f, hf⟩ : ∃ f, cstK toks m = f := ⟨_, rfl⟩
  have HF : Hid ((∀ k, -1 ≤ f k ∧ f k ≤ 60000000) ∧ ∀ k, 0 ≤ f k → bkMay (k : Int) toks m = true) := by rw [← hf]; exact ⟨cst_bd hlit, fun k h => cst_may h⟩
  have HCO : Hid (∀ (W : World) (k : Nat), Below w.heap.size w W → Calls Try.prog 11 #[.int .i64 (k : Int), .slice At nt ct, .slice C m cr] W fun e w' => e = .returned (.int .i64 (f k)) ∧ Below W.heap.size W w') := fun W k h => by
    have := bcost_any W (k : Int) At nt ct toks ((hT.below h).more h.size) hnt hlit C m cr
    rw [show (if bkMay (k : Int) toks m = true then costB (k : Int) toks m else -1) = f k by rw [← hf]; rfl] at this
    exact this
  have HFF := Lib.hid hf
  clear hw hT hnt hsep hlit hr hsepr hby hlen hf
  go_enter Try.func24, Try.ntmps24
  go_wp2_with fail
  go_loopg [9, 10, 11] 3 (fun (gk : Nat) (v9 v10 v11 : Value) wx => ∃ (k : Nat) (b c : Int), v9 = .int .i64 b ∧ v10 = .int .i64 c ∧ v11 = .int .i64 k ∧ k ≤ 3 ∧ Hid (pickK f k = (b, c)) ∧ Hid (Below w.heap.size w wx) ∧ Hid (gk = 3 - k))
  case atStart => exact ⟨0, -1, 0, rfl, rfl, rfl, by omega, rfl, Below.refl _ _, rfl⟩
  case round =>
    obtain ⟨k, b, cc, rfl, rfl, rfl, hk, hp, hb, hg⟩ := hrel
    have hin := pickK_in f k
    rw [hp.out] at hin
    dsimp only at hin
    have hbb : -1 ≤ b ∧ b ≤ 3 := by rcases hin with h | ⟨i, h1, h2, _⟩ <;> omega
    by_cases hlt : k ≤ 2
    · have hkI : (k : Int) ≤ 2 ∧ (0 : Int) ≤ (k : Int) := by omega
      have HC := Lib.hid (HCO.out wr k hb.out)
      obtain ⟨N, hN⟩ : ∃ N, f k = N := ⟨_, rfl⟩
      have hNb := HF.out.1 k
      rw [hN] at HC hNb
      have hcb : -1 ≤ cc ∧ cc ≤ 60000000 := by
        rcases hin with h | ⟨i, _, _, h1, _⟩
        · have h0 : ∀ j, (pickK f j).1 = -1 → (pickK f j).2 = 0 := fun j => by
            induction j with
            | zero => intro _; rfl
            | succ j ih =>
              intro h9
              unfold pickK at h9 ⊢
              split at h9
              · exfalso; dsimp only at h9; omega
              · rename_i h8; rw [if_neg h8]; exact ih h9
          have h7 := h0 k (by rw [hp.out]; exact h)
          rw [hp.out] at h7
          have h7 : cc = 0 := h7
          omega
        · have := HF.out.1 i; omega
      have HNX : Hid (pickK f (k + 1) = if 0 ≤ N ∧ (b < 0 ∨ N < cc) then ((k : Int), N) else (b, cc)) := by
        show _ = _
        rw [show pickK f (k + 1) = if 0 ≤ f k ∧ ((pickK f k).1 < 0 ∨ f k < (pickK f k).2) then ((k : Int), f k) else pickK f k from rfl, hp.out, hN]
      clear hin hN hp hlt
      go_wp2_with fail
      refine HC.out.mono ?_
      rintro e w5 ⟨rfl, hb5⟩
      have HB6 := Lib.hid (hb.out.trans (hb5.mono hb.out.size))
      clear hb5
      by_cases hc : 0 ≤ N ∧ (b < 0 ∨ N < cc)
      · have hnx := HNX.out
        rw [if_pos hc] at hnx
        have HN2 := Lib.hid hnx
        clear hnx HNX
        obtain ⟨hc1, hc2⟩ := hc
        by_cases hb0 : b < 0
        · clear hc2
          go_wp2_with fail
          go_roundg (3 - (k + 1))
          case measure => have := hg.out; omega
          case rel => exact ⟨k + 1, (k : Int), N, rfl, rfl, by go_num, by omega, HN2.out, HB6.out, rfl⟩
        · have hb0d : decide (b < 0) = false := by simp; omega
          have hnc : N < cc := by rcases hc2 with h | h; exact absurd h hb0; exact h
          clear hc2
          go_wp2_with fail
          go_roundg (3 - (k + 1))
          case measure => have := hg.out; omega
          case rel => exact ⟨k + 1, (k : Int), N, rfl, rfl, by go_num, by omega, HN2.out, HB6.out, rfl⟩
      · have hnx := HNX.out
        rw [if_neg hc] at hnx
        have HN2 := Lib.hid hnx
        clear hnx HNX
        by_cases hN0 : 0 ≤ N
        · have hb0d : decide (b < 0) = false := by simp; omega
          have hnc : decide (N < cc) = false := by simp; omega
          clear hc
          go_wp2_with fail
          go_roundg (3 - (k + 1))
          case measure => have := hg.out; omega
          case rel => exact ⟨k + 1, b, cc, rfl, rfl, by go_num, by omega, HN2.out, HB6.out, rfl⟩
        · have hN0d : decide (0 ≤ N) = false := by simp; omega
          clear hc
          go_wp2_with fail
          go_roundg (3 - (k + 1))
          case measure => have := hg.out; omega
          case rel => exact ⟨k + 1, b, cc, rfl, rfl, by go_num, by omega, HN2.out, HB6.out, rfl⟩
    · obtain rfl : k = 3 := by omega
      have HP : Hid ((pickK (cstK toks m) 3).1 = b) := by show _ = _; rw [HFF.out, hp.out]
      clear hlt
      by_cases hb0 : 0 ≤ b
      · obtain ⟨i, hi, hbi, hci, hfi⟩ : ∃ i : Nat, i < 3 ∧ b = (i : Int) ∧ cc = f i ∧ 0 ≤ f i := by
          rcases hin with h | ⟨i, h1, h2, h3, h4⟩
          · omega
          · exact ⟨i, h1, h2, h3, h4⟩
        have hmay := HF.out.2 i hfi
        rw [← hbi] at hmay
        obtain ⟨hw, hT, hnt, hsep, hlit, hr, hsepr, hby, hlen⟩ := HH.out
        have hs := BkS.start hw hb.out
        obtain ⟨⟨A3, n3, c3, hw3, hA3⟩, hc3⟩ := hs
        have hWK := wkind_any wr b0 g n3 c3 A3 _ hw3 b At nt ct toks ((hT.below hb.out).more hb.out.size) hnt (fun h0 => sep_on hA3 (fun ad e => by
          obtain ⟨ad', e', hb', _⟩ := hT.2 h0
          rw [e] at e'; injection e' with e'; rw [e']; exact hb') (hsep h0)) hlit C m cr raw ((hr.below hb.out).more hb.out.size) (fun h0 => sep_on hA3 (fun ad e => by
          obtain ⟨ad', e', hb', _⟩ := hr.2 h0
          rw [e] at e'; injection e' with e'; rw [e']; exact hb') (hsepr h0)) hby last hmay hlen
        have HWK := Lib.hid hWK
        have HC3 := Lib.hid (⟨hA3, hc3⟩ : _ ∧ _)
        clear hw hT hnt hsep hlit hr hsepr hby hlen hw3 hA3 hc3 hWK hi hbi hci hfi hmay hin hp
        go_wp2_with fail
        refine HWK.out.mono ?_
        rintro e w5 ⟨rfl, h5⟩
        have H5 := Lib.hid (BkS.step HC3.out.2 HC3.out.1 h5)
        clear h5
        go_wp2_with fail
        go_ret
        exact ⟨by rw [HP.out]; rfl, .inr ⟨by rw [HP.out]; exact hb0, by rw [HP.out]; exact H5.out⟩⟩
      · have hbm : b = -1 := by omega
        subst hbm
        clear hin hp
        go_wp2_with fail
        go_ret
        exact ⟨by rw [HP.out]; rfl, .inl ⟨HP.out, hb.out⟩⟩
end Go.Proofs.Ytckhkkjdibcclaa
