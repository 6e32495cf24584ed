/-
  What the walk of TableBack keeps: the writer, the reader that waits, two lists; each in blocks of its own.
-/
import Derived.Test.YtjkmejcglhnnaaaProg
import Derived.Test.YtjkmejcglhnnaaaTBackP
import Derived.Test.YtjkmejcglhnnaaaWtrB
import Derived.Test.YtjkmejcglhnnaaaRdr
namespace Go.Proofs.Ytjkmejcglhnnaaa
open Go.RowKit
set_option linter.unusedVariables false

structure BSt (wB : World) (b0 b1 gw gr : Nat) (Aw : Option Addr) (nw cw : Nat) (L : List Int) (Ax : Option Addr) (nx cx : Nat) (W : List Int) (Ay : Option Addr) (ny cy : Nat) (M : List Int) (wr : World) : Prop where
  wtr : Wtr wr b0 gw Aw nw cw L
  rdr : Rdr wr b0 gr none 0 0 [] 0
  o1 : OwnI .i64 wr b1 3 Ax nx cx W
  o2 : OwnI .u8 wr b1 5 Ay ny cy M
  gwb : gw < b1
  grb : gr < b1
  gne : gr ≠ gw
  d1 : ∀ q, blkOf Ax = some q → blkOf Aw ≠ some q
  d2 : ∀ q, blkOf Ay = some q → blkOf Aw ≠ some q
  d3 : ∀ q, blkOf Ax = some q → blkOf Ay ≠ some q
  d4 : blkOf Aw ≠ some gr
  hb1 : b1 ≤ wr.heap.size
  bel : Below b0 wB wr
section
variable {wB wr w' : World} {b0 b1 gw gr nw cw nx cx ny cy : Nat} {Aw Ax Ay : Option Addr} {L W M : List Int}
theorem Rdr.foot1 {w : World} {b0 g : Nat} (h : Rdr w b0 g none 0 0 [] 0) {k : Nat} (hk : foot none g k) : k = g := by
  rcases hk with h | h
  · exact h
  · simp [blkOf] at h
theorem BSt.keeps (h : BSt wB b0 b1 gw gr Aw nw cw L Ax nx cx W Ay ny cy M wr) (hb0 : b0 ≤ b1) (hb : Below wr.heap.size wr w') : BSt wB b0 b1 gw gr Aw nw cw L Ax nx cx W Ay ny cy M w' :=
  ⟨h.wtr.keeps hb, h.rdr.keeps hb, h.o1.keeps hb, h.o2.keeps hb, h.gwb, h.grb, h.gne, h.d1, h.d2, h.d3, h.d4, Nat.le_trans h.hb1 hb.size, h.bel.trans (hb.mono (Nat.le_trans hb0 h.hb1))⟩
theorem BSt.wrote {A' : Option Addr} {n' c' : Nat} {L' : List Int} (h : BSt wB b0 b1 gw gr Aw nw cw L Ax nx cx W Ay ny cy M wr) (hb0 : b0 ≤ b1) (hw : Wtr w' b0 gw A' n' c' L') (hc : Chg wr w' (foot Aw gw)) (hA : ∀ k, blkOf A' = some k → blkOf Aw = some k ∨ wr.heap.size ≤ k) :
    BSt wB b0 b1 gw gr A' n' c' L' Ax nx cx W Ay ny cy M w' := by
  have l1 : ∀ q, blkOf Ax = some q → b1 ≤ q ∧ q < wr.heap.size := fun q hq => h.o1.2.lt hq
  have l2 : ∀ q, blkOf Ay = some q → b1 ≤ q ∧ q < wr.heap.size := fun q hq => h.o2.2.lt hq
  have s1 : ∀ q, blkOf Ax = some q → ¬ foot Aw gw q := fun q hq hf => by
    rcases hf with hf | hf
    · have := l1 q hq; have := h.gwb; omega
    · exact h.d1 q hq hf
  have s2 : ∀ q, blkOf Ay = some q → ¬ foot Aw gw q := fun q hq hf => by
    rcases hf with hf | hf
    · have := l2 q hq; have := h.gwb; omega
    · exact h.d2 q hq hf
  have s3 : ¬ foot Aw gw gr := fun hf => by
    rcases hf with hf | hf
    · exact h.gne hf
    · exact h.d4 hf
  refine ⟨hw, h.rdr.chg hc fun k hk => by rw [h.rdr.foot1 hk]; exact s3, hc.ownI h.o1 s1, hc.ownI h.o2 s2, h.gwb, h.grb, h.gne, ?_, ?_, h.d3, ?_, Nat.le_trans h.hb1 hc.size, ?_⟩
  · intro q hq e
    rcases hA q e with e | e
    · exact h.d1 q hq e
    · have := l1 q hq; omega
  · intro q hq e
    rcases hA q e with e | e
    · exact h.d2 q hq e
    · have := l2 q hq; omega
  · intro e
    rcases hA gr e with e | e
    · exact h.d4 e
    · have := h.grb; have := h.hb1; omega
  · exact h.bel.trans (hc.below (fun q hq => (h.wtr.foot_lo hq).1) (Nat.le_trans hb0 h.hb1))
theorem BSt.app1 {A' : Option Addr} {n' c' : Nat} {W' : List Int} (h : BSt wB b0 b1 gw gr Aw nw cw L Ax nx cx W Ay ny cy M wr) (hb0 : b0 ≤ b1) (ho : OwnI .i64 w' b1 3 A' n' c' W') (hg : wr.grownBy w' (blkOf Ax)) (hA : blkOf A' = blkOf Ax ∨ blkOf A' = some wr.heap.size) :
    BSt wB b0 b1 gw gr Aw nw cw L A' n' c' W' Ay ny cy M w' := by
  have hc : Chg wr w' (fun k => blkOf Ax = some k) := (Chg.refl wr _).grown hg fun k hk => .inl hk
  have l1 : ∀ q, blkOf Ax = some q → b1 ≤ q ∧ q < wr.heap.size := fun q hq => h.o1.2.lt hq
  refine ⟨h.wtr.chg hc fun k hk e => ?_, h.rdr.chg hc fun k hk e => ?_, ho, hc.ownI h.o2 fun q hq e => h.d3 q e hq, h.gwb, h.grb, h.gne, ?_, h.d2, ?_, h.d4, Nat.le_trans h.hb1 hg.size, h.bel.trans (hc.below (fun q hq => Nat.le_trans hb0 (l1 q hq).1) (Nat.le_trans hb0 h.hb1))⟩
  · rcases hk with hk | hk
    · have := l1 k e; have := h.gwb; omega
    · exact h.d1 k e hk
  · rw [h.rdr.foot1 hk] at e; have := l1 gr e; have := h.grb; omega
  · intro q hq e
    rcases hA with hA | hA
    · exact h.d1 q (hA ▸ hq) e
    · have h1 := (h.wtr.own.2.lt e).2
      rw [hA] at hq
      injection hq with hq
      omega
  · intro q hq e
    rcases hA with hA | hA
    · exact h.d3 q (hA ▸ hq) e
    · have h1 := (h.o2.2.lt e).2
      rw [hA] at hq
      injection hq with hq
      omega
theorem BSt.app2 {A' : Option Addr} {n' c' : Nat} {M' : List Int} (h : BSt wB b0 b1 gw gr Aw nw cw L Ax nx cx W Ay ny cy M wr) (hb0 : b0 ≤ b1) (ho : OwnI .u8 w' b1 5 A' n' c' M') (hg : wr.grownBy w' (blkOf Ay)) (hA : blkOf A' = blkOf Ay ∨ blkOf A' = some wr.heap.size) :
    BSt wB b0 b1 gw gr Aw nw cw L Ax nx cx W A' n' c' M' w' := by
  have hc : Chg wr w' (fun k => blkOf Ay = some k) := (Chg.refl wr _).grown hg fun k hk => .inl hk
  have l2 : ∀ q, blkOf Ay = some q → b1 ≤ q ∧ q < wr.heap.size := fun q hq => h.o2.2.lt hq
  refine ⟨h.wtr.chg hc fun k hk e => ?_, h.rdr.chg hc fun k hk e => ?_, hc.ownI h.o1 fun q hq e => h.d3 q hq e, ho, h.gwb, h.grb, h.gne, h.d1, ?_, ?_, h.d4, Nat.le_trans h.hb1 hg.size, h.bel.trans (hc.below (fun q hq => Nat.le_trans hb0 (l2 q hq).1) (Nat.le_trans hb0 h.hb1))⟩
  · rcases hk with hk | hk
    · have := l2 k e; have := h.gwb; omega
    · exact h.d2 k e hk
  · rw [h.rdr.foot1 hk] at e; have := l2 gr e; have := h.grb; omega
  · intro q hq e
    rcases hA with hA | hA
    · exact h.d2 q (hA ▸ hq) e
    · have h1 := (h.wtr.own.2.lt e).2
      rw [hA] at hq
      injection hq with hq
      omega
  · intro q hq e
    rcases hA with hA | hA
    · exact h.d3 q hq (hA ▸ e)
    · have h1 := (h.o1.2.lt hq).2
      rw [hA] at e
      injection e with e
      omega
end

/-- may this symbol be written? -/
def mayB (l : List Int) (x : Int) : Bool := decide (0 ≤ x ∧ x < l.length ∧ 0 < ix l x.toNat)
/-- the symbols of the first k that may -/
def wantT (l ls : List Int) : Nat → List Int
  | 0 => []
  | k + 1 => wantT l ls k ++ if mayB l (ix ls k) then [ix ls k] else []
/-- their bits -/
def allT (l : List Int) : List Int → List Int
  | [] => []
  | x :: W => symBits l x.toNat ++ allT l W
theorem allT_app (l W V : List Int) : allT l (W ++ V) = allT l W ++ allT l V := by
  induction W with
  | nil => rfl
  | cons x W ih => rw [List.cons_append, allT, allT, ih, List.append_assoc]
theorem wantT_may (l ls : List Int) (k : Nat) : ∀ x ∈ wantT l ls k, mayB l x = true := by
  induction k with
  | zero => intro x h; cases h
  | succ k ih =>
    intro x h
    rw [wantT] at h
    rcases List.mem_append.1 h with h | h
    · exact ih x h
    · split at h
      · rename_i hm; rw [List.mem_singleton] at h; rw [h]; exact hm
      · cases h
theorem wantT_len (l ls : List Int) (k : Nat) : (wantT l ls k).length ≤ k := by
  induction k with
  | zero => exact Nat.le_refl _
  | succ k ih => rw [wantT, List.length_append]; split <;> simp <;> omega
theorem allT_len {l W : List Int} (hin : ∀ i, i < l.length → 0 ≤ ix l i ∧ ix l i ≤ 15) (hW : ∀ x ∈ W, mayB l x = true) : (allT l W).length ≤ 15 * W.length := by
  induction W with
  | nil => exact Nat.le_refl _
  | cons x W ih =>
    have h1 := ih fun y hy => hW y (List.mem_cons_of_mem _ hy)
    have h2 := hW x List.mem_cons_self
    unfold mayB at h2
    simp only [decide_eq_true_eq] at h2
    have h3 := hin x.toNat (by omega)
    rw [allT, List.length_append, symBits_length, List.length_cons]
    omega
theorem Bit.allT (l W : List Int) : Bit (allT l W) := by
  induction W with
  | nil => exact Bit.nil_
  | cons x W ih => exact (Bit.sym l x.toNat).app ih
/-- the k-th symbol is read off its place -/
theorem allT_next {l W z : List Int} {k : Nat} (hk : k < W.length) (hl : l.length ≤ 288) (hin : ∀ i, i < l.length → 0 ≤ ix l i ∧ ix l i ≤ 15) (hS : sumTo l l.length ≤ 32768) (hW : ∀ x ∈ W, mayB l x = true) :
    ∃ N : Nat, nextOf l ((allT l W ++ z).drop (allT l (W.take k)).length) = (ix W k, N, 0) ∧ (allT l (W.take k)).length + N = (allT l (W.take (k + 1))).length := by
  have hx : W = W.take k ++ ix W k :: W.drop (k + 1) := by
    have e : ix W k = W[k] := by simp [ix, hk]
    rw [e, ← List.drop_eq_getElem_cons hk, List.take_append_drop]
  have hm : mayB l (ix W k) = true := hW _ (by simp [ix, hk])
  unfold mayB at hm
  simp only [decide_eq_true_eq] at hm
  obtain ⟨h0, h1, h2⟩ := hm
  obtain ⟨s, hs⟩ := Int.eq_ofNat_of_zero_le h0
  rw [hs] at h1 h2
  have hs2 : s < l.length := by omega
  have h3 := hin s hs2
  obtain ⟨N, hN⟩ := Int.eq_ofNat_of_zero_le h3.1
  have hN1 : 1 ≤ N := by simp only [Int.toNat_natCast] at h2; omega
  have hN15 : N ≤ 15 := by omega
  have hd : (allT l W ++ z).drop (allT l (W.take k)).length = symBits l s ++ (allT l (W.drop (k + 1)) ++ z) := by
    conv => lhs; rw [hx, allT_app, List.append_assoc]
    have e2 : List.take k (W.take k ++ ix W k :: W.drop (k + 1)) = W.take k := by rw [← hx]
    rw [e2, List.drop_append_of_le_length (Nat.le_refl _), List.drop_length, List.nil_append, allT, hs, Int.toNat_natCast, List.append_assoc]
  refine ⟨N, ?_, ?_⟩
  · have hlen : (symBits l s).length = N := by rw [symBits_length, hN]; rfl
    rw [hd, hs]
    refine sym_next _ hN hN1 hN15 hs2 hS ?_ ?_
    · rw [List.take_append_of_le_length (by omega), List.take_of_length_le (by omega)]
    · rw [List.length_append]; omega
  · rw [take_last W hk, allT_app, List.length_append, hs]
    show _ = _ + (symBits l (s : Int).toNat ++ []).length
    rw [List.append_nil, Int.toNat_natCast, symBits_length, hN]
    rfl
end Go.Proofs.Ytjkmejcglhnnaaa
