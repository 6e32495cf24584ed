/-
  Several texts in one (written by pack2.py): TabW, BkT, BkF, BkC.
-/
import Derived.Test.YtlgkiookobedcaaProg
import Derived.Test.YtlgkiookobedcaaTab
import Derived.Test.YtlgkiookobedcaaPk17
import Derived.Test.YtlgkiookobedcaaRev
import Derived.Test.YtlgkiookobedcaaPk5
import Derived.Test.YtlgkiookobedcaaPk9
import Derived.Test.YtlgkiookobedcaaPk7
import Derived.Test.YtlgkiookobedcaaPk4
import Derived.Test.YtlgkiookobedcaaPk10
import Derived.Test.YtlgkiookobedcaaPk8
namespace Go.Proofs.Ytlgkiookobedcaa
open Go.RowKit
set_option linter.unusedVariables false
set_option maxHeartbeats 1600000 in
theorem twrite_not (w : World) (t0 B gt : Nat) (l : List Int) (u : Value) (s : Int) (ht : Tab w t0 B gt l) (hl : l.length ≤ 288) (hs : s < 0 ∨ (l.length : Int) ≤ s ∨ ix l s.toNat = 0) :
    Calls Try.prog 62 #[.pointer (some ⟨gt, 0, none⟩), u, .int .i64 s] w fun e w' => e = .returned (.bool false) ∧ w = w' := by
  obtain ⟨Al, Ac, As, cl, cc, cs, har, hral, hrac, hras, -⟩ := ht
  have k0 := har.cell (i := 0) (by omega)
  have e0 : tbF Al l.length cl Ac l.length cc (cf l 16 0) As (srt l 15).length cs (lgT l 15 : Nat) 0 = .slice Al l.length cl := rfl
  rw [e0] at k0
  have hlI : (0 : Int) ≤ (l.length : Int) ∧ (l.length : Int) ≤ 288 := by omega
  have hcs : s < 0 ∨ (¬ s < 0 ∧ (l.length : Int) ≤ s) ∨ (0 ≤ s ∧ s < (l.length : Int) ∧ ix l s.toNat = 0) := by omega
  clear e0 hs
  rcases hcs with h | ⟨h, h1⟩ | ⟨h, h1, h2⟩
  · go_enter Try.func62, Try.ntmps62
    go_wp2
    go_ret
    exact ⟨rfl, rfl⟩
  · go_enter Try.func62, Try.ntmps62
    go_wp2
    go_ret
    exact ⟨rfl, rfl⟩
  · obtain ⟨k, rfl⟩ := Int.eq_ofNat_of_zero_le h
    have hkl : k < l.length := by omega
    obtain ⟨ad, rfl, hbl, c1⟩ := hral.at_ hkl
    have e2 : ix l k = 0 := by simpa using h2
    rw [e2] at c1
    clear h2 e2
    go_enter Try.func62, Try.ntmps62
    go_wp2
    go_ret
    exact ⟨rfl, rfl⟩
def TWritePost (w : World) (b0 g : Nat) (A : Option Addr) (L : List Int) (e : Ending) (w' : World) : Prop :=
  ∃ A' n' c', e = .returned (.bool true) ∧ Wtr w' b0 g A' n' c' L ∧ Chg w w' (foot A g) ∧ (∀ k, blkOf A' = some k → blkOf A = some k ∨ w.heap.size ≤ k)
set_option maxHeartbeats 1600000 in
theorem twrite_ok (w : World) (t0 B gt b0 g n c : Nat) (A : Option Addr) (l L : List Int) (s : Nat) (ht : Tab w t0 B gt l) (hl : l.length ≤ 288) (hw : Wtr w b0 g A n c L) (hlen : L.length ≤ 4000000000000) (hs : s < l.length) (h1 : 1 ≤ ix l s) (h15 : ix l s ≤ 15) :
    Calls Try.prog 62 #[.pointer (some ⟨gt, 0, none⟩), .pointer (some ⟨g, 0, none⟩), .int .i64 s] w (TWritePost w b0 g A (L ++ symBits l s)) := by
  obtain ⟨Al, Ac, As, cl, cc, cs, har, hral, hrac, hras, -⟩ := ht
  have k0 := har.cell (i := 0) (by omega)
  have k1 := har.cell (i := 1) (by omega)
  have e0 : tbF Al l.length cl Ac l.length cc (cf l 16 0) As (srt l 15).length cs (lgT l 15 : Nat) 0 = .slice Al l.length cl := rfl
  have e1 : tbF Al l.length cl Ac l.length cc (cf l 16 0) As (srt l 15).length cs (lgT l 15 : Nat) 1 = .slice Ac l.length cc := rfl
  rw [e0] at k0
  rw [e1] at k1
  have hlI : (0 : Int) ≤ (s : Int) ∧ (s : Int) < (l.length : Int) ∧ (l.length : Int) ≤ 288 := by omega
  obtain ⟨ad, rfl, hbl, c0⟩ := hral.at_ hs
  obtain ⟨ad1, rfl, hbl1, c1⟩ := hrac.at_ hs
  rw [ix_codesOf l hl hs] at c1
  obtain ⟨N, hN⟩ := Int.eq_ofNat_of_zero_le (show 0 ≤ ix l s by omega)
  have hN1 : 1 ≤ (N : Int) ∧ (N : Int) ≤ 15 := by omega
  have hsb : symBits l s = ofN (revN (codeAt l s) N) N := by unfold symBits; rw [hN]; rfl
  obtain ⟨C, hC⟩ : ∃ C, codeAt l s = C := ⟨_, rfl⟩
  have hCb : (0 : Int) ≤ C ∧ (C : Int) < 4294967296 := by
    rw [← hC]; unfold codeAt
    have h2 := nxt_bd l hl (v := (ix l s).toNat) (by omega)
    have h3 := cnt_le l s (ix l s).toNat
    split <;> omega
  rw [hN] at c0
  rw [hC] at c1 hsb
  have hRb := revN_bd' C N
  have hp := pow_mono2 (show N ≤ 15 by omega)
  have hp15 : (2 : Int) ^ 15 = 32768 := rfl
  obtain ⟨X, hX⟩ : ∃ X, revN C N = X := ⟨_, rfl⟩
  rw [hX] at hRb hsb
  have hXb : 0 ≤ X ∧ X < 4294967296 := by omega
  have HX := Lib.hid hX
  have HSB := Lib.hid hsb
  have hN32 : (N : Int) ≤ 32 := by omega
  have hN0 : ((N : Int) == 0) = false := by simp; omega
  clear hN hC hX hsb hRb hp hp15 h1 h15 e0 e1
  go_enter Try.func62, Try.ntmps62
  go_wp2_with fail
  refine (reverse_ok _ C N hCb ⟨hN1.1, hN32⟩).mono ?_
  rintro e w1 ⟨rfl, rfl⟩
  rw [HX.out]
  go_wp2_with fail
  refine (put_ok _ _ _ _ _ _ _ hw X N hXb hN32 hlen).mono ?_
  rintro e w2 ⟨A', n', c', rfl, hw2, hg2, hf2⟩
  go_wp2
  go_ret
  rw [HSB.out]
  exact ⟨A', n', c', rfl, hw2, hg2, hf2⟩
end Go.Proofs.Ytlgkiookobedcaa
namespace Go.Proofs.Ytlgkiookobedcaa
open Go.RowKit
set_option linter.unusedVariables false
def TwPost (w : World) (b0 g : Nat) (A : Option Addr) (L : List Int) (e : Ending) (w' : World) : Prop :=
  ∃ A' n' c' b, e = .returned (.bool b) ∧ Wtr w' b0 g A' n' c' L ∧ Chg w w' (foot A g) ∧ (∀ k, blkOf A' = some k → blkOf A = some k ∨ w.heap.size ≤ k)
theorem twrite_any (w : World) (t0 B gt b0 g n c : Nat) (A : Option Addr) (l L : List Int) (s : Nat) (ht : Tab w t0 B gt l) (hl : l.length ≤ 288) (hw : Wtr w b0 g A n c L) (hlen : L.length ≤ 4000000000000) (hin : ∀ i, i < l.length → 0 ≤ ix l i ∧ ix l i ≤ 15) :
    Calls Try.prog 62 #[.pointer (some ⟨gt, 0, none⟩), .pointer (some ⟨g, 0, none⟩), .int .i64 s] w (TwPost w b0 g A (L ++ symBits l s)) := by
  by_cases h : s < l.length ∧ 1 ≤ ix l s
  · refine (twrite_ok w t0 B gt b0 g n c A l L s ht hl hw hlen h.1 h.2 (hin s h.1).2).mono ?_
    rintro e w' ⟨A', n', c', rfl, h1, h2, h3⟩
    exact ⟨A', n', c', true, rfl, h1, h2, h3⟩
  · have h0 : ix l s = 0 := by
      by_cases e : s < l.length
      · have := hin s e; omega
      · unfold ix; rw [List.getD_eq_getElem?_getD, List.getElem?_eq_none (by omega)]; rfl
    have hb : symBits l s = [] := List.eq_nil_of_length_eq_zero (by rw [symBits_length, h0]; rfl)
    refine (twrite_not w t0 B gt l _ s ht hl (.inr (.inr (by rw [Int.toNat_natCast]; exact h0)))).mono ?_
    rintro e w' ⟨rfl, rfl⟩
    refine ⟨A, n, c, false, rfl, ?_, Chg.refl _ _, fun k hk => .inl hk⟩
    rw [hb, List.append_nil]; exact hw
theorem RdT.chg {w w' : World} {B n : Nat} {A : Option Addr} {l : List Tok} {S : Nat → Prop} (h : RdT w B A n l) (hc : Chg w w' S) (hB : B ≤ w.heap.size) (hS : 0 < n → ∀ ad, A = some ad → ¬ S ad.block) : RdT w' B A n l := ⟨h.1, fun h0 => by
  obtain ⟨ad, e, hb, hcs⟩ := h.2 h0
  have hk : ∀ j, w'.cell? (ad.add j) = w.cell? (ad.add j) := fun j => hc.cell (by rw [addr_block]; omega) (by rw [addr_block]; exact hS h0 ad e)
  exact ⟨ad, e, hb, fun i hi => by obtain ⟨c1, c2, c3⟩ := hcs i hi; exact ⟨(hk _).trans c1, (hk _).trans c2, (hk _).trans c3⟩⟩⟩
structure BkS (w2 wr : World) (b0 g : Nat) (A : Option Addr) (L : List Int) : Prop where
  wtr : ∃ A' n' c', Wtr wr b0 g A' n' c' L ∧ ∀ k, blkOf A' = some k → blkOf A = some k ∨ w2.heap.size ≤ k
  chg : Chg w2 wr (foot A g)
theorem BkS.alloc {w2 wr : World} {b0 g : Nat} {A : Option Addr} {L : List Int} (h : BkS w2 wr b0 g A L) (o : Obj) : BkS w2 (wr.alloc o) b0 g A L := by
  obtain ⟨⟨A', n', c', h1, h2⟩, h3⟩ := h
  exact ⟨⟨A', n', c', h1.keeps ((Below.refl _ wr).alloc (Nat.le_refl _) o), h2⟩, h3.alloc o⟩
theorem BkS.next {w2 wr w' : World} {b0 g : Nat} {A A1 : Option Addr} {n' c' : Nat} {L' : List Int} {A' : Option Addr} (h : Chg w2 wr (foot A g)) (hA1 : ∀ k, blkOf A1 = some k → blkOf A = some k ∨ w2.heap.size ≤ k) (hw : Wtr w' b0 g A' n' c' L') (hc : Chg wr w' (foot A1 g)) (hA' : ∀ k, blkOf A' = some k → blkOf A1 = some k ∨ wr.heap.size ≤ k) : BkS w2 w' b0 g A L' := by
  refine ⟨⟨A', n', c', hw, fun k hk => ?_⟩, h.trans hc fun k hk => ?_⟩
  · rcases hA' k hk with h1 | h1
    · exact hA1 k h1
    · exact .inr (Nat.le_trans h.size h1)
  · rcases hk with rfl | hk
    · exact .inl (.inl rfl)
    · rcases hA1 k hk with h1 | h1
      · exact .inl (.inr h1)
      · exact .inr h1
section
variable {w2 wr : World} {b0 g : Nat} {A : Option Addr} {L : List Int}
theorem BkS.put (h : BkS w2 wr b0 g A L) (V : Int) (N : Nat) (hV : 0 ≤ V ∧ V < 4294967296) (hN : (N : Int) ≤ 32) (hlen : L.length ≤ 4000000000000) :
    Calls Try.prog 45 #[.pointer (some ⟨g, 0, none⟩), .int .u32 V, .int .i64 N] wr fun e w' => e = .returned (.tuple #[]) ∧ BkS w2 w' b0 g A (L ++ ofN V N) := by
  obtain ⟨⟨A1, n1, c1, h1, h2⟩, h3⟩ := h
  refine (put_ok wr b0 g n1 c1 A1 L h1 V N hV hN hlen).mono ?_
  rintro e w' ⟨A', n', c', rfl, h4, h5, h6⟩
  exact ⟨rfl, BkS.next h3 h2 h4 h5 h6⟩
theorem BkS.sym (h : BkS w2 wr b0 g A L) {t0 B gt : Nat} {l : List Int} (ht : Tab w2 t0 B gt l) (hB : B ≤ w2.heap.size) (hap : ∀ k, t0 ≤ k → k < B → ¬ foot A g k) (s : Nat) (hl : l.length ≤ 288) (hin : ∀ i, i < l.length → 0 ≤ ix l i ∧ ix l i ≤ 15) (hlen : L.length ≤ 4000000000000) :
    Calls Try.prog 62 #[.pointer (some ⟨gt, 0, none⟩), .pointer (some ⟨g, 0, none⟩), .int .i64 s] wr fun e w' => (∃ b, e = .returned (.bool b)) ∧ BkS w2 w' b0 g A (L ++ symBits l s) := by
  obtain ⟨⟨A1, n1, c1, h1, h2⟩, h3⟩ := h
  refine (twrite_any wr t0 B gt b0 g n1 c1 A1 l L s (ht.chg h3 hB hap) hl h1 hlen hin).mono ?_
  rintro e w' ⟨A', n', c', b, rfl, h4, h5, h6⟩
  exact ⟨⟨b, rfl⟩, BkS.next h3 h2 h4 h5 h6⟩
end
structure BkT (w2 wk wr : World) (p : Nat) (b0 g : Nat) (A : Option Addr) (L : List Int) : Prop where
  wtr : ∃ A' n' c', Wtr wr b0 g A' n' c' L ∧ (∀ k, blkOf A' = some k → blkOf A = some k ∨ w2.heap.size ≤ k) ∧ ¬ foot A' g p
  chg : Chg w2 wr (foot A g)
  kp : wr.heap[p]? = wk.heap[p]?
  lt : p < wr.heap.size
section
variable {w2 wk wr : World} {p b0 g : Nat} {A : Option Addr} {L : List Int}
theorem BkT.new (h : BkS w2 wr b0 g A L) (o : Obj) : BkT w2 (wr.alloc o) (wr.alloc o) wr.heap.size b0 g A L := by
  obtain ⟨⟨A', n', c', h1, h2⟩, h3⟩ := h
  exact ⟨⟨A', n', c', h1.keeps ((Below.refl _ wr).alloc (Nat.le_refl _) o), h2, fun e => by have := (h1.foot_lo e).2; omega⟩, h3.alloc o, rfl, by simp⟩
theorem BkT.old (h : BkT w2 wk wr p b0 g A L) : BkS w2 wr b0 g A L := by
  obtain ⟨⟨A', n', c', h1, h2, _⟩, h3, _, _⟩ := h
  exact ⟨⟨A', n', c', h1, h2⟩, h3⟩
theorem BkT.cell (h : BkT w2 wk wr p b0 g A L) {m : Nat} {f : Nat → Value} (ha : Ar wk p m f) {i : Nat} (hi : i < m) : wr.cell? ⟨p, i, none⟩ = some (f i) := (ha.same h.kp).cell hi
theorem BkT.next {w' : World} {A1 : Option Addr} {n' c' : Nat} {L' : List Int} {A' : Option Addr} (h : BkT w2 wk wr p b0 g A L) (hap : ¬ foot A1 g p) (hA1 : ∀ k, blkOf A1 = some k → blkOf A = some k ∨ w2.heap.size ≤ k) (hw : Wtr w' b0 g A' n' c' L') (hc : Chg wr w' (foot A1 g)) (hA' : ∀ k, blkOf A' = some k → blkOf A1 = some k ∨ wr.heap.size ≤ k) : BkT w2 wk w' p b0 g A L' := by
  obtain ⟨h1, h2⟩ := BkS.next h.chg hA1 hw hc hA'
  refine ⟨⟨A', n', c', hw, fun k hk => ?_, fun e => ?_⟩, h2, (hc.block p h.lt hap).trans h.kp, Nat.lt_of_lt_of_le h.lt hc.size⟩
  · rcases hA' k hk with h3 | h3
    · exact hA1 k h3
    · exact .inr (Nat.le_trans h.chg.size h3)
  · rcases e with e | e
    · exact hap (.inl e)
    · rcases hA' p e with h3 | h3
      · exact hap (.inr h3)
      · have := h.lt; omega
theorem BkT.put (h : BkT w2 wk wr p b0 g A L) (V : Int) (N : Nat) (hV : 0 ≤ V ∧ V < 4294967296) (hN : (N : Int) ≤ 32) (hlen : L.length ≤ 4000000000000) :
    Calls Try.prog 45 #[.pointer (some ⟨g, 0, none⟩), .int .u32 V, .int .i64 N] wr fun e w' => e = .returned (.tuple #[]) ∧ BkT w2 wk w' p b0 g A (L ++ ofN V N) := by
  obtain ⟨A1, n1, c1, h1, h2, h4⟩ := h.wtr
  refine (put_ok wr b0 g n1 c1 A1 L h1 V N hV hN hlen).mono ?_
  rintro e w' ⟨A', n', c', rfl, h5, h6, h7⟩
  exact ⟨rfl, h.next h4 h2 h5 h6 h7⟩
theorem BkT.sym (h : BkT w2 wk wr p b0 g A L) {t0 B gt : Nat} {l : List Int} (ht : Tab w2 t0 B gt l) (hB : B ≤ w2.heap.size) (hap : ∀ k, t0 ≤ k → k < B → ¬ foot A g k) (s : Nat) (hl : l.length ≤ 288) (hin : ∀ i, i < l.length → 0 ≤ ix l i ∧ ix l i ≤ 15) (hlen : L.length ≤ 4000000000000) :
    Calls Try.prog 62 #[.pointer (some ⟨gt, 0, none⟩), .pointer (some ⟨g, 0, none⟩), .int .i64 s] wr fun e w' => (∃ b, e = .returned (.bool b)) ∧ BkT w2 wk w' p b0 g A (L ++ symBits l s) := by
  obtain ⟨A1, n1, c1, h1, h2, h4⟩ := h.wtr
  refine (twrite_any wr t0 B gt b0 g n1 c1 A1 l L s (ht.chg h.chg hB hap) hl h1 hlen hin).mono ?_
  rintro e w' ⟨A', n', c', b, rfl, h5, h6, h7⟩
  exact ⟨⟨b, rfl⟩, h.next h4 h2 h5 h6 h7⟩
end
def TkR (w2 : World) (b0 g : Nat) (A : Option Addr) (L lit dist : List Int) (toks : List Tok) (n : Nat) (gk : Nat) (v : Value) (wx : World) : Prop :=
  ∃ k : Nat, v = .int .i64 k ∧ k ≤ n ∧ Hid (BkS w2 wx b0 g A (L ++ toksB lit dist (toks.take k))) ∧ Hid (gk = n - k)
set_option maxRecDepth 100000 in
set_option maxHeartbeats 2000000 in
theorem tokens_any (w : World) (b0 g n c : Nat) (A : Option Addr) (L : List Int) (hw : Wtr w b0 g A n c L) (Bt : Nat) (At : Option Addr) (nt ct : Nat) (toks : List Tok) (hT : RdT w Bt At nt toks) (hBt : Bt ≤ w.heap.size) (hsep : 0 < nt → ∀ ad, At = some ad → ¬ foot A g ad.block)
    (hsnd : ∀ t ∈ toks, soundT t ∧ 0 ≤ t.lit ∧ t.lit < 256) (hlen : L.length + 48 * nt + 15 ≤ 4000000000000) (Bl : Nat) (Al : Option Addr) (nl cl : Nat) (lit : List Int) (hl : RdI .i64 w Bl Al nl lit) (hBl : Bl ≤ w.heap.size) (hnl : nl ≤ 288) (hcl : checkOf lit 15 = 0)
    (Bd : Nat) (Ad : Option Addr) (nd cd : Nat) (dist : List Int) (hd : RdI .i64 w Bd Ad nd dist) (hBd : Bd ≤ w.heap.size) (hnd : nd ≤ 288) (hcd : checkOf dist 15 = 0) :
    Calls Try.prog 48 #[.pointer (some ⟨g, 0, none⟩), .slice At nt ct, .slice Al nl cl, .slice Ad nd cd] w fun e w' => e = .returned (.tuple #[]) ∧ BkS w w' b0 g A (L ++ blkB lit dist toks) := by
  have hB1 := build_ok w Al nl cl Bl lit 15 hl hBl hnl hcl
  obtain ⟨l1, l2, -⟩ := check_ok' hcl
  obtain ⟨d1, d2, -⟩ := check_ok' hcd
  have HB1 := Lib.hid hB1
  have HL := Lib.hid (⟨l1, l2, d1, d2⟩ : _ ∧ _ ∧ _ ∧ _)
  have HT := Lib.hid (⟨hT, hBt, hsep, hsnd, hlen⟩ : _ ∧ _ ∧ _ ∧ _ ∧ _)
  have HD := Lib.hid (⟨hd, hBd, hnd, hcd⟩ : _ ∧ _ ∧ _ ∧ _)
  have HW := Lib.hid hw
  have hntI : (0 : Int) ≤ nt ∧ (nt : Int) ≤ 4000000000000 := by omega
  clear hB1 l1 l2 d1 d2 hT hBt hsep hsnd hlen hd hBd hnd hcd hw hl hBl hnl hcl
  go_enter Try.func48, Try.ntmps48
  go_wp2_with fail
  refine HB1.out.mono ?_
  rintro e w1 ⟨ga, rfl, hTa, hb1⟩
  have HB2 := Lib.hid (build_ok w1 Ad nd cd Bd dist 15 (HD.out.1.below (hb1.mono HD.out.2.1)) (Nat.le_trans HD.out.2.1 hb1.size) HD.out.2.2.1 HD.out.2.2.2)
  have HTA := Lib.hid (⟨hTa, hb1⟩ : _ ∧ _)
  clear hTa hb1
  go_wp2_with fail
  refine HB2.out.mono ?_
  rintro e w2 ⟨gb, rfl, hTb, hb2⟩
  obtain ⟨hTa, hb1⟩ := HTA.out
  obtain ⟨hT, hBt, hsep, hsnd, hlen⟩ := HT.out
  have hb12 := hb1.trans (hb2.mono hb1.size)
  have hs2 : BkS w2 w2 b0 g A L := ⟨⟨A, n, c, HW.out.keeps hb12, fun k hk => .inl hk⟩, Chg.refl _ _⟩
  have hflt : ∀ k, foot A g k → k < w.heap.size := fun k hk => (HW.out.foot_lo hk).2
  have HAA := Lib.hid (⟨hTa.keeps (Nat.le_refl _) hb2, hTb, fun k (h : w.heap.size ≤ k) (_ : k < w1.heap.size) e => by have := hflt k e; omega, fun k (h : w1.heap.size ≤ k) (_ : k < w2.heap.size) e => by have := hflt k e; have := hb1.size; omega⟩ :
    Tab w2 w.heap.size w1.heap.size ga lit ∧ Tab w2 w1.heap.size w2.heap.size gb dist ∧ (∀ k, w.heap.size ≤ k → k < w1.heap.size → ¬ foot A g k) ∧ ∀ k, w1.heap.size ≤ k → k < w2.heap.size → ¬ foot A g k)
  have HT2 := Lib.hid (hT.below (hb12.mono hBt))
  have HBT := Lib.hid (Nat.le_trans hBt hb12.size)
  have HS2 := Lib.hid hs2
  have HB12 := Lib.hid (⟨hb12, hb2.size⟩ : _ ∧ _)
  clear hTb hb2 hTa hb1 hT hBt hsep hsnd hlen hb12 hs2 hflt HTA HB2
  go_wp2_with fail
  go_loopg [29] nt (TkR w2 b0 g A L lit dist toks nt)
  case atStart => exact ⟨0, rfl, Nat.zero_le _, by have h := HS2.out; show BkS w2 w2 b0 g A (L ++ []); rw [List.append_nil]; exact h, rfl⟩
  case round =>
    clear HS2
    obtain ⟨k, rfl, hk, hs, hg⟩ := hrel
    by_cases hlt : k < nt
    · have hkI : (k : Int) < (nt : Int) ∧ (0 : Int) ≤ (k : Int) := by omega
      have hTr := HT2.out.chg hs.out.chg HBT.out (fun h0 ad e => HT.out.2.2.1 h0 ad e)
      obtain ⟨ad, hA, hbl, hcs⟩ := hTr.2 (by omega)
      obtain ⟨a0, a1, a2⟩ := hcs k hlt
      rw [addr_next _ _ _ (by omega)] at a1 a2
      have hkl : k < toks.length := by rw [← HT.out.1.1]; exact hlt
      have hsd := HT.out.2.2.2.1 (tokAt toks k) (by
        have e : tokAt toks k = toks[k] := by simp [tokAt, hkl]
        rw [e]; exact List.getElem_mem hkl)
      have hnx := tok_take hkl
      obtain ⟨⟨T0, N, D⟩, ht⟩ : ∃ t : Tok, tokAt toks k = t := ⟨_, rfl⟩
      rw [ht] at a0 a1 a2 hsd hnx
      obtain ⟨sl, rfl⟩ : ∃ sl : Nat, T0 = (sl : Int) := ⟨T0.toNat, by have := hsd.2.1; have h : 0 ≤ T0 := this; omega⟩
      replace a0 : wr.cell? (ad.add (k * 3)) = some (.int .u8 (sl : Int)) := a0
      replace a1 : wr.cell? { block := (ad.add (k * 3)).block, off := (ad.add (k * 3)).off + 1 } = some (.int .i64 N) := a1
      replace a2 : wr.cell? { block := (ad.add (k * 3)).block, off := (ad.add (k * 3)).off + 2 } = some (.int .i64 D) := a2
      have hbl0 : (L ++ toksB lit dist (toks.take k)).length ≤ 3999999999952 := by
        have h1 := toks_le HL.out.2.1 HL.out.2.2.2 (toks.take k) fun t ht => (HT.out.2.2.2.1 t (List.mem_of_mem_take ht)).1
        have := HT.out.2.2.2.2
        rw [List.length_take] at h1
        rw [List.length_append]
        have : min k toks.length ≤ k := Nat.min_le_left _ _
        omega
      have HNX := Lib.hid (show L ++ toksB lit dist (toks.take (k + 1)) = (L ++ toksB lit dist (toks.take k)) ++ tokB lit dist ⟨(sl : Int), N, D⟩ by rw [hnx, toksB_app, toksB_one, List.append_assoc])
      have HSD := Lib.hid hsd
      have hslb : (0 : Int) ≤ (sl : Int) ∧ (sl : Int) < 256 := hsd.2
      have HBL := Lib.hid hbl0
      have HLT := Lib.hid hlt
      clear hTr hcs ht hnx hsd hbl0 hbl hkl hlt
      subst hA
      by_cases hN0 : N = 0
      · subst hN0
        have hsy := (hs.out.alloc (.cells #[.int .u8 (sl : Int), .int .i64 0, .int .i64 D] 68)).sym HAA.out.1 HB12.out.2 HAA.out.2.2.1 sl HL.out.1 HL.out.2.1 (by have := HBL.out; omega)
        have HSY := Lib.hid hsy
        have hfin : Hid (∀ w', BkS w2 w' b0 g (L := (L ++ toksB lit dist (toks.take k)) ++ symBits lit sl) A → BkS w2 w' b0 g A (L ++ toksB lit dist (toks.take (k + 1)))) := fun w' h => by
          rw [HNX.out]; unfold tokB; rw [if_pos rfl]; exact h
        clear hsy
        go_wp2_with fail
        refine HSY.out.mono ?_
        rintro e w5 ⟨⟨b, rfl⟩, h5⟩
        have h6 := Lib.hid (hfin.out w5 h5)
        clear h5 hfin
        go_wp2_with fail
        go_roundg (nt - (k + 1))
        case measure => have := hg.out; have := HLT.out; omega
        case rel => exact ⟨k + 1, by go_num, HLT.out, h6, rfl⟩
      · obtain ⟨⟨n3, n258⟩, ⟨d1, d2⟩, j28, q29⟩ := tok_bd HSD.out.1 hN0
        replace n3 : 3 ≤ N := n3
        replace n258 : N ≤ 258 := n258
        replace d1 : 1 ≤ D := d1
        replace d2 : D ≤ 32768 := d2
        have v1 := (lenJ_last n3).val_l n258
        have v1' := (lenJ_last n3).2.1
        have v2 := (distJ_last d1).val_d d2
        have v2' := (distJ_last d1).2.1
        have hE1 := (lB_bd (lenJ N) (by have : lenJ N ≤ 28 := j28; omega)).2.2
        have hE2 := (dB_bd' (distJ D) (by have : distJ D ≤ 29 := q29; omega)).2.2
        have hJ29 : lenJ N ≤ 28 := j28
        have hQ30 : distJ D ≤ 29 := q29
        have hp1 : (2 : Nat) ^ lE (lenJ N) ≤ 2 ^ 5 := Nat.pow_le_pow_right (by omega) hE1
        have hp2 : (2 : Nat) ^ dE (distJ D) ≤ 2 ^ 13 := Nat.pow_le_pow_right (by omega) hE2
        have hw0 := BkT.new hs.out (.cells #[.int .u8 (sl : Int), .int .i64 N, .int .i64 D] 68)
        have htf := tf_new wr (sl : Int) N D 68
        have hc1 := lenCode_any N (wr.alloc (.cells #[.int .u8 (sl : Int), .int .i64 N, .int .i64 D] 68))
        have hcd : ∀ W, Calls Try.prog 64 #[.int .i64 D] W (CodePost dB dE 1 32768 0 29 D W) := fun W => distCode_any D W
        have hbits : Hid (tokB lit dist ⟨(sl : Int), N, D⟩ = symBits lit (257 + lenJ N) ++ ofN (N - ((lB (lenJ N) : Nat) : Int)) (lE (lenJ N)) ++ symBits dist (distJ D) ++ ofN (D - ((dB (distJ D) : Nat) : Int)) (dE (distJ D))) := by
          show _ = _; unfold tokB; rw [if_neg hN0]
        have hcl := fun v (h : CodeIs lB lE 3 258 257 28 N v) => code_len h ⟨n3, n258⟩
        have hcdv := fun v (h : CodeIs dB dE 1 32768 0 29 D v) => code_dist h ⟨d1, d2⟩
        obtain ⟨j, hj⟩ : ∃ j, lenJ N = j := ⟨_, rfl⟩
        obtain ⟨q, hq⟩ : ∃ q, distJ D = q := ⟨_, rfl⟩
        rw [hj] at v1 v1' hE1 hJ29 hp1 hbits hcl
        rw [hq] at v2 v2' hE2 hQ30 hp2 hbits hcdv
        obtain ⟨E1, he1⟩ : ∃ E, lE j = E := ⟨_, rfl⟩
        obtain ⟨E2, he2⟩ : ∃ E, dE q = E := ⟨_, rfl⟩
        obtain ⟨V1, hv1⟩ : ∃ V, N - ((lB j : Nat) : Int) = V := ⟨_, rfl⟩
        obtain ⟨V2, hv2⟩ : ∃ V, D - ((dB q : Nat) : Int) = V := ⟨_, rfl⟩
        obtain ⟨S1, hS1⟩ : ∃ S, 257 + j = S := ⟨_, rfl⟩
        rw [hv1, he1, hS1] at hbits
        rw [hv2, he2] at hbits
        have hS1I : (257 : Int) + (j : Int) = (S1 : Int) := by omega
        have HCL : Hid (∀ v, CodeIs lB lE 3 258 257 28 N v → v = .tuple #[.int .i64 (S1 : Int), .int .i64 (E1 : Int), .int .i64 V1]) := fun v h => by have := hcl v h; rw [this, hv1, he1, hS1I]
        have HCD : Hid (∀ v, CodeIs dB dE 1 32768 0 29 D v → v = .tuple #[.int .i64 (q : Int), .int .i64 (E2 : Int), .int .i64 V2]) := fun v h => by have := hcdv v h; rw [this, hv2, he2]
        rw [he1] at hE1 hp1 v1
        rw [he2] at hE2 hp2 v2
        have hV1 : 0 ≤ V1 ∧ V1 < 32 := by have h5 : (2 : Nat) ^ 5 = 32 := rfl; omega
        have hV2 : 0 ≤ V2 ∧ V2 < 8192 := by have h5 : (2 : Nat) ^ 13 = 8192 := rfl; omega
        have hEI : (0 : Int) ≤ (E1 : Int) ∧ (E1 : Int) ≤ 5 ∧ (0 : Int) ≤ (E2 : Int) ∧ (E2 : Int) ≤ 13 := by omega
        have HC1 := Lib.hid hc1
        have HC2 := Lib.hid hcd
        have HS1 := Lib.hid (hw0.sym HAA.out.1 HB12.out.2 HAA.out.2.2.1 S1 HL.out.1 HL.out.2.1 (by have := HBL.out; omega))
        have HTF := Lib.hid htf
        have hN0' : (N == 0) = false := by simpa using hN0
        clear v1 v1' v2 v2' hE1 hE2 hJ29 hQ30 hp1 hp2 hw0 htf hc1 hcd hcl hcdv hj hq he1 he2 hv1 hv2 hS1 hS1I n3 n258 d1 d2 j28 q29
        go_wp2_with fail
        refine HC1.out.mono ?_
        rintro e w5 ⟨⟨v, rfl, hv⟩, rfl⟩
        rw [HCL.out v hv]
        clear hv
        go_wp2_with fail
        refine HS1.out.mono ?_
        rintro e w6 ⟨⟨b6, rfl⟩, h6⟩
        have HP1 := Lib.hid (h6.put V1 E1 (by omega) (by omega) (by have := HBL.out; have := sym_le HL.out.2.1 S1; rw [List.length_append]; omega))
        clear h6
        go_wp2_with fail
        refine HP1.out.mono ?_
        rintro e w7 ⟨rfl, h7⟩
        have cd : w7.cell? ⟨wr.heap.size, 2, none⟩ = some (.int .i64 D) := h7.cell HTF.out (i := 2) (by omega)
        have HS2' := Lib.hid (h7.sym HAA.out.2.1 (Nat.le_refl _) HAA.out.2.2.2 q HL.out.2.2.1 HL.out.2.2.2 (by have := HBL.out; have := sym_le HL.out.2.1 S1; rw [List.length_append, List.length_append, ofN_length]; omega))
        clear h7
        go_wp2_with fail
        refine (HC2.out _).mono ?_
        rintro e w8 ⟨⟨v, rfl, hv⟩, rfl⟩
        rw [HCD.out v hv]
        clear hv cd
        go_wp2_with fail
        refine HS2'.out.mono ?_
        rintro e w9 ⟨⟨b9, rfl⟩, h9⟩
        have HP2 := Lib.hid (h9.put V2 E2 (by omega) (by omega) (by have := HBL.out; have := sym_le HL.out.2.1 S1; have := sym_le HL.out.2.2.2 q; rw [List.length_append, List.length_append, List.length_append, ofN_length]; omega))
        clear h9
        go_wp2_with fail
        refine HP2.out.mono ?_
        rintro e w10 ⟨rfl, h10⟩
        have h11 := Lib.hid (show BkS w2 w10 b0 g A (L ++ toksB lit dist (toks.take (k + 1))) from by
          have h := h10.old
          rw [HNX.out, hbits.out]
          simpa [List.append_assoc] using h)
        clear h10
        go_wp2_with fail
        go_roundg (nt - (k + 1))
        case measure => have := hg.out; have := HLT.out; omega
        case rel => exact ⟨k + 1, by go_num, HLT.out, h11, rfl⟩
    · obtain rfl : k = nt := by omega
      have hkI : ¬ (k : Int) < (k : Int) := by omega
      have htk : toks.take k = toks := List.take_of_length_le (by rw [← HT.out.1.1]; exact Nat.le_refl _)
      have hs' := hs.out
      rw [htk] at hs'
      have hbl : (L ++ toksB lit dist toks).length ≤ 4000000000000 := by
        have h1 := toks_le HL.out.2.1 HL.out.2.2.2 toks fun t ht => (HT.out.2.2.2.1 t ht).1
        have := HT.out.2.2.2.2
        have := HT.out.1.1
        rw [List.length_append]; omega
      have HSY := Lib.hid (hs'.sym HAA.out.1 HB12.out.2 HAA.out.2.2.1 256 HL.out.1 HL.out.2.1 hbl)
      clear hs' hbl htk hs hlt hg
      go_wp2_with fail
      refine HSY.out.mono ?_
      rintro e w5 ⟨⟨b, rfl⟩, h5⟩
      have hfin : Hid (BkS w w5 b0 g A (L ++ blkB lit dist toks)) := by
        obtain ⟨⟨A', n', c', q1, q2⟩, q3⟩ := h5
        refine ⟨⟨A', n', c', by unfold blkB; rw [← List.append_assoc]; exact q1, fun q hq => ?_⟩, (Chg.of_below HB12.out.1).trans q3 fun q hq => .inl hq⟩
        rcases q2 q hq with h | h
        · exact .inl h
        · exact .inr (Nat.le_trans HB12.out.1.size h)
      clear h5
      go_wp2_with fail
      go_end0
      exact ⟨rfl, hfin.out⟩
end Go.Proofs.Ytlgkiookobedcaa
namespace Go.Proofs.Ytlgkiookobedcaa
open Go.RowKit
set_option linter.unusedVariables false
theorem BkS.keeps {w2 wr w' : World} {b0 g : Nat} {A : Option Addr} {L : List Int} (h : BkS w2 wr b0 g A L) (hb : Below wr.heap.size wr w') : BkS w2 w' b0 g A L := by
  obtain ⟨⟨A', n', c', h1, h2⟩, h3⟩ := h
  exact ⟨⟨A', n', c', h1.keeps hb, h2⟩, h3.trans (S' := fun _ => False) (Chg.of_below hb) fun k hk => hk.elim⟩
theorem BkS.start {w w1 : World} {b0 g n c : Nat} {A : Option Addr} {L : List Int} (hw : Wtr w b0 g A n c L) (hb : Below w.heap.size w w1) : BkS w w1 b0 g A L :=
  ⟨⟨A, n, c, hw.keeps hb, fun k hk => .inl hk⟩, Chg.of_below hb⟩
set_option maxRecDepth 100000 in
set_option maxHeartbeats 4000000 in
theorem wkind_fixed (w : World) (b0 g n c : Nat) (A : Option Addr) (L : List Int) (hw : Wtr w b0 g A n c L) (At : Option Addr) (nt ct : Nat) (toks : List Tok) (hT : RdT w w.heap.size At nt toks) (hsep : 0 < nt → ∀ ad, At = some ad → ¬ foot A g ad.block) (hlit : ∀ t ∈ toks, 0 ≤ t.lit ∧ t.lit < 256)
    (Ar : Option Addr) (m cr : Nat) (last : Bool) (hm : bkMay 1 toks m = true) (hlen : L.length ≤ 3000000000000) :
    Calls Try.prog 29 #[.pointer (some ⟨g, 0, none⟩), .int .i64 1, .slice At nt ct, .slice Ar m cr, .bool last] w fun e w' => e = .returned (.bool true) ∧ BkS w w' b0 g A (L ++ ofN (if last then 1 else 0) 1 ++ ofN 1 2 ++ blkB fixL fixD toks) := by
  have hmm : toks.length < 1048576 ∧ ∀ t ∈ toks, soundT t := by
    unfold bkMay at hm
    rw [if_neg (by decide)] at hm
    by_cases h : ¬ ((1 : Int) = 1 ∨ (1 : Int) = 2) ∨ 1048576 ≤ toks.length
    · rw [if_pos h] at hm; exact absurd hm (by decide)
    · rw [if_neg h, List.all_eq_true] at hm
      exact ⟨by omega, fun t ht => of_decide_eq_true (hm t ht)⟩
  have hnl := hT.1
  have HM := Lib.hid (may_any w 1 At nt ct toks hT (by omega) Ar m cr)
  have HF := Lib.hid hm
  have HH := Lib.hid (⟨hw, hT, hsep, hlit, hmm.1, hmm.2, hlen, hnl⟩ : _ ∧ _ ∧ _ ∧ _ ∧ _ ∧ _ ∧ _ ∧ _)
  clear hT hm hw hsep hlit hmm hlen hnl
  obtain ⟨mk, hmk⟩ : ∃ mk : Int, (if last = true then (1 : Int) else 0) = mk := ⟨_, rfl⟩
  have hmkb : mk = if last = true then (1 : Int) else 0 := hmk.symm
  rw [hmk]
  clear hmk
  cases last with
  | false =>
    obtain rfl : mk = 0 := hmkb
    go_enter Try.func29, Try.ntmps29
    go_wp2_with fail
    refine HM.out.mono ?_
    rintro e w1 ⟨rfl, hb1⟩
    rw [HF.out]
    have HS0 := Lib.hid (BkS.start HH.out.1 hb1)
    have HP1 := Lib.hid (HS0.out.put 0 1 (by decide) (by decide) (by have := HH.out.2.2.2.2.2.2.1; omega))
    clear hb1
    go_wp2_with fail
    refine HP1.out.mono ?_
    rintro e w2 ⟨rfl, h2⟩
    have HP2 := Lib.hid (h2.put 1 2 (by decide) (by decide) (by rw [List.length_append, ofN_length]; have := HH.out.2.2.2.2.2.2.1; omega))
    clear h2
    go_wp2_with fail
    refine HP2.out.mono ?_
    rintro e w3 ⟨rfl, h3⟩
    have H3 := Lib.hid h3
    clear h3
    go_wp2_with fail
    refine (fixed_any w3).mono ?_
    rintro e w4 ⟨Af, cf, Ag, cg, rfl, ho1, ho2, hb4⟩
    obtain ⟨hw, hT, hsep, hlit, hlt, hsnd, hlen, hnl⟩ := HH.out
    have h4 := H3.out.keeps hb4
    obtain ⟨⟨A4, n4, c4, hw4, hA4⟩, hc4⟩ := h4
    have hT4 : RdT w4 w.heap.size At nt toks := hT.chg hc4 (Nat.le_refl _) hsep
    have htk := tokens_any w4 b0 g n4 c4 A4 _ hw4 w.heap.size At nt ct toks hT4 hc4.size (fun h0 ad e hk => by
        have hbl : ad.block < w.heap.size := by
          obtain ⟨ad', e', hb', _⟩ := hT.2 h0
          rw [e] at e'; injection e' with e'; rw [e']; exact hb'
        rcases hk with hk | hk
        · exact hsep h0 ad e (.inl hk)
        · rcases hA4 _ hk with h | h
          · exact hsep h0 ad e (.inr h)
          · omega)
      (fun t ht => ⟨hsnd t ht, hlit t ht⟩) (by rw [List.length_append, List.length_append, ofN_length, ofN_length]; omega) w4.heap.size Af 288 cf fixL ho1.rd (Nat.le_refl _) (by decide) fix_ok.1 w4.heap.size Ag 32 cg fixD ho2.rd (Nat.le_refl _) (by decide) fix_ok.2
    have HTK := Lib.hid htk
    have HC4 := Lib.hid (⟨hA4, hc4⟩ : _ ∧ _)
    clear htk hT4 hw4 hA4 hc4 hw hT hsep hlit hlt hsnd hlen hnl ho1 ho2 hb4
    go_wp2_with fail
    refine HTK.out.mono ?_
    rintro e w5 ⟨rfl, h5⟩
    have hfin := Lib.hid (show BkS w w5 b0 g A (L ++ ofN 0 1 ++ ofN 1 2 ++ blkB fixL fixD toks) from by
      obtain ⟨⟨A5, n5, c5, q1, q2⟩, q3⟩ := h5
      exact BkS.next HC4.out.2 HC4.out.1 q1 q3 q2)
    clear h5
    go_wp2_with fail
    go_ret
    exact ⟨rfl, hfin.out⟩
  | true =>
    obtain rfl : mk = 1 := hmkb
    go_enter Try.func29, Try.ntmps29
    go_wp2_with fail
    refine HM.out.mono ?_
    rintro e w1 ⟨rfl, hb1⟩
    rw [HF.out]
    have HS0 := Lib.hid (BkS.start HH.out.1 hb1)
    have HP1 := Lib.hid (HS0.out.put 1 1 (by decide) (by decide) (by have := HH.out.2.2.2.2.2.2.1; omega))
    clear hb1
    go_wp2_with fail
    refine HP1.out.mono ?_
    rintro e w2 ⟨rfl, h2⟩
    have HP2 := Lib.hid (h2.put 1 2 (by decide) (by decide) (by rw [List.length_append, ofN_length]; have := HH.out.2.2.2.2.2.2.1; omega))
    clear h2
    go_wp2_with fail
    refine HP2.out.mono ?_
    rintro e w3 ⟨rfl, h3⟩
    have H3 := Lib.hid h3
    clear h3
    go_wp2_with fail
    refine (fixed_any w3).mono ?_
    rintro e w4 ⟨Af, cf, Ag, cg, rfl, ho1, ho2, hb4⟩
    obtain ⟨hw, hT, hsep, hlit, hlt, hsnd, hlen, hnl⟩ := HH.out
    have h4 := H3.out.keeps hb4
    obtain ⟨⟨A4, n4, c4, hw4, hA4⟩, hc4⟩ := h4
    have hT4 : RdT w4 w.heap.size At nt toks := hT.chg hc4 (Nat.le_refl _) hsep
    have htk := tokens_any w4 b0 g n4 c4 A4 _ hw4 w.heap.size At nt ct toks hT4 hc4.size (fun h0 ad e hk => by
        have hbl : ad.block < w.heap.size := by
          obtain ⟨ad', e', hb', _⟩ := hT.2 h0
          rw [e] at e'; injection e' with e'; rw [e']; exact hb'
        rcases hk with hk | hk
        · exact hsep h0 ad e (.inl hk)
        · rcases hA4 _ hk with h | h
          · exact hsep h0 ad e (.inr h)
          · omega)
      (fun t ht => ⟨hsnd t ht, hlit t ht⟩) (by rw [List.length_append, List.length_append, ofN_length, ofN_length]; omega) w4.heap.size Af 288 cf fixL ho1.rd (Nat.le_refl _) (by decide) fix_ok.1 w4.heap.size Ag 32 cg fixD ho2.rd (Nat.le_refl _) (by decide) fix_ok.2
    have HTK := Lib.hid htk
    have HC4 := Lib.hid (⟨hA4, hc4⟩ : _ ∧ _)
    clear htk hT4 hw4 hA4 hc4 hw hT hsep hlit hlt hsnd hlen hnl ho1 ho2 hb4
    go_wp2_with fail
    refine HTK.out.mono ?_
    rintro e w5 ⟨rfl, h5⟩
    have hfin := Lib.hid (show BkS w w5 b0 g A (L ++ ofN 1 1 ++ ofN 1 2 ++ blkB fixL fixD toks) from by
      obtain ⟨⟨A5, n5, c5, q1, q2⟩, q3⟩ := h5
      exact BkS.next HC4.out.2 HC4.out.1 q1 q3 q2)
    clear h5
    go_wp2_with fail
    go_ret
    exact ⟨rfl, hfin.out⟩
end Go.Proofs.Ytlgkiookobedcaa
namespace Go.Proofs.Ytlgkiookobedcaa
open Go.RowKit
set_option linter.unusedVariables false
set_option maxRecDepth 100000 in
set_option maxHeartbeats 2000000 in
theorem bcost_no (w : World) (kind : Int) (At : Option Addr) (nt ct : Nat) (toks : List Tok) (hT : RdT w w.heap.size At nt toks) (hnt : (nt : Int) ≤ 4611686018427387904) (Ar : Option Addr) (m cr : Nat) (hm : bkMay kind toks m = false) :
    Calls Try.prog 58 #[.int .i64 kind, .slice At nt ct, .slice Ar m cr] w fun e w' => e = .returned (.int .i64 (-1)) ∧ Below w.heap.size w w' := by
  have HM := Lib.hid (may_any w kind At nt ct toks hT hnt Ar m cr)
  have HF := Lib.hid hm
  clear hT hm
  go_enter Try.func58, Try.ntmps58
  go_wp2_with fail
  refine HM.out.mono ?_
  rintro e w1 ⟨rfl, hb1⟩
  rw [HF.out]
  go_wp2_with fail
  go_ret
  exact ⟨rfl, hb1⟩
set_option maxRecDepth 100000 in
set_option maxHeartbeats 2000000 in
theorem bcost_stored (w : World) (At : Option Addr) (nt ct : Nat) (toks : List Tok) (hT : RdT w w.heap.size At nt toks) (hnt : (nt : Int) ≤ 4611686018427387904) (Ar : Option Addr) (m cr : Nat) (hm : m ≤ 65535) :
    Calls Try.prog 58 #[.int .i64 0, .slice At nt ct, .slice Ar m cr] w fun e w' => e = .returned (.int .i64 (40 + 8 * (m : Int))) ∧ Below w.heap.size w w' := by
  have HM := Lib.hid (may_any w 0 At nt ct toks hT hnt Ar m cr)
  have HF := Lib.hid (show bkMay 0 toks m = true by unfold bkMay; rw [if_pos rfl]; exact decide_eq_true hm)
  have hmI : (0 : Int) ≤ (m : Int) ∧ (m : Int) ≤ 65535 := by omega
  clear hT hm
  go_enter Try.func58, Try.ntmps58
  go_wp2_with fail
  refine HM.out.mono ?_
  rintro e w1 ⟨rfl, hb1⟩
  rw [HF.out]
  go_wp2_with fail
  go_ret
  exact ⟨rfl, hb1⟩
end Go.Proofs.Ytlgkiookobedcaa
