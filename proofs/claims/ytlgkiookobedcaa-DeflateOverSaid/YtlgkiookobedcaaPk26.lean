/-
  Several texts in one (written by pack2.py): DefM, DefL, DefY, DefB, DefS.
-/
import Derived.Test.YtlgkiookobedcaaProg
import Derived.Test.YtlgkiookobedcaaPk21
import Derived.Test.YtlgkiookobedcaaPk25
import Derived.Test.YtlgkiookobedcaaPk3
import Derived.Test.YtlgkiookobedcaaPk10
import Derived.Test.YtlgkiookobedcaaFrqW
import Derived.Test.YtlgkiookobedcaaPk4
import Derived.Test.YtlgkiookobedcaaPk22
import Derived.Test.YtlgkiookobedcaaStepT
import Derived.Test.YtlgkiookobedcaaPk24
namespace Go.Proofs.Ytlgkiookobedcaa
open Go.RowKit
set_option linter.unusedVariables false
structure EM where
  gf : Nat
  A : Option Addr
  n : Nat
  c : Nat
  gm : Nat
  Ap : Option Addr
  np : Nat
  cp : Nat
  gw : Nat
  Aw : Option Addr
  nw : Nat
  cw : Nat
  Ar : Option Addr
  nr : Nat
  cr : Nat
  At : Option Addr
  nt : Nat
  ct : Nat
def eF (M : EM) (lev : Int) (done : Bool) : Nat → Value
  | 0 => .pointer (some ⟨M.gf, 0, none⟩)
  | 1 => .pointer (some ⟨M.gw, 0, none⟩)
  | 2 => .int .i64 lev
  | 3 => .slice M.Ar M.nr M.cr
  | 4 => .slice M.At M.nt M.ct
  | _ => .bool done
structure EncM (w : World) (b0 g : Nat) (c : Nat → Nat) (M : EM) (d : DSt) (done : Bool) : Prop where
  cell : Ar w g 6 (eF M d.lev done)
  cg : c g = 1
  fnd : ∃ nm Dm, FndC w b0 M.gf (effOf d.lev) d.f d.f.at_ M.A M.n M.c M.gm nm Dm M.Ap M.np M.cp
  cf : ∀ k, FF M.A M.gm M.Ap M.gf k → c k = 2
  wtr : Wtr w b0 M.gw M.Aw M.nw M.cw d.L
  cw : ∀ k, foot M.Aw M.gw k → c k = 3
  raw : OwnI .u8 w b0 5 M.Ar M.nr M.cr d.raw
  cr : ∀ k, blkOf M.Ar = some k → c k = 4
  tok : OwnT w b0 M.At M.nt M.ct d.toks
  ct : ∀ k, blkOf M.At = some k → c k = 5
  cb : ∀ k, c k ≠ 0 → b0 ≤ k ∧ k < w.heap.size
def EncS (w0 : World) (c0 : Nat → Nat) (w : World) (b0 g : Nat) (M : EM) (d : DSt) (done : Bool) : Prop := ∃ c, EncM w b0 g c M d done ∧ DE b0 w0 c0 w c
section
variable {w w' w0 : World} {b0 g : Nat} {c c0 : Nat → Nat} {M : EM} {d : DSt} {done : Bool}
theorem EncM.refl (h : EncM w b0 g c M d done) : EncS w c w b0 g M d done := ⟨c, h, Below.refl _ _, Chg.refl _ _, fun _ _ => rfl⟩
theorem EncM.lo (h : EncM w b0 g c M d done) : b0 ≤ w.heap.size := by have := h.cb g (by rw [h.cg]; decide); omega
theorem EncM.finder (h : EncM w b0 g c M d done) (hc : Chg w w' (FF M.A M.gm M.Ap M.gf)) {A' Ap' : Option Addr} {n' c' np' cp' : Nat} {f' : FSt} (hr : ∃ nm Dm, FndC w' b0 M.gf (effOf d.lev) f' f'.at_ A' n' c' M.gm nm Dm Ap' np' cp') (hf : ∀ k, FF A' M.gm Ap' M.gf k → FF M.A M.gm M.Ap M.gf k ∨ w.heap.size ≤ k) :
    EncM w' b0 g (colour c w.heap.size (FF A' M.gm Ap' M.gf) 2) { M with A := A', n := n', c := c', Ap := Ap', np := np', cp := cp' } { d with f := f' } done := by
  have hF : ∀ k, (FF M.A M.gm M.Ap M.gf) k → c k = 2 := h.cf
  have hlt : ∀ k i, c k = i → i ≠ 0 → k < w.heap.size := fun k i h1 h2 => (h.cb k (by omega)).2
  have hold : ∀ k, k < w.heap.size → colour c w.heap.size (FF A' M.gm Ap' M.gf) 2 k = c k := fun k hk => colour_old hk
  have hkeep : ∀ k i, c k = i → i ≠ 0 → colour c w.heap.size (FF A' M.gm Ap' M.gf) 2 k = i := fun k i h1 h2 => (hold k (hlt k i h1 h2)).trans h1
  exact ⟨hc.ar h.cell (fun e => by have := hF g e; have := h.cg; omega),
    hkeep _ _ h.cg (by decide),
    hr,
    fun k hk => by
      rcases Nat.lt_or_ge k w.heap.size with h1 | h1
      · rcases hf k hk with h2 | h2
        · exact hkeep k 2 (h.cf k h2) (by decide)
        · omega
      · exact colour_new h1 hk,
    h.wtr.chg hc (fun k hk e => by have := hF k e; have := h.cw k hk; omega),
    fun k hk => hkeep k 3 (h.cw k hk) (by decide),
    hc.ownI h.raw (fun k hk e => by have := hF k e; have := h.cr k hk; omega),
    fun k hk => hkeep k 4 (h.cr k hk) (by decide),
    ⟨h.tok.1, hc.own h.tok.2 (fun k hk e => by have := hF k e; have := h.ct k hk; omega)⟩,
    fun k hk => hkeep k 5 (h.ct k hk) (by decide),
    fun k hk => by
      rcases colour_ne hk with ⟨h1, h2⟩ | ⟨h1, h2⟩
      · exact ⟨(h.cb k h2).1, Nat.lt_of_lt_of_le h1 hc.size⟩
      · exact (by obtain ⟨nm, Dm, hx⟩ := hr; exact hx.foot_lo h2)⟩
theorem EncS.finder (h : EncS w0 c0 w b0 g M d done) (hc : Chg w w' (FF M.A M.gm M.Ap M.gf)) {A' Ap' : Option Addr} {n' c' np' cp' : Nat} {f' : FSt} (hr : ∃ nm Dm, FndC w' b0 M.gf (effOf d.lev) f' f'.at_ A' n' c' M.gm nm Dm Ap' np' cp') (hf : ∀ k, FF A' M.gm Ap' M.gf k → FF M.A M.gm M.Ap M.gf k ∨ w.heap.size ≤ k) :
    EncS w0 c0 w' b0 g { M with A := A', n := n', c := c', Ap := Ap', np := np', cp := cp' } { d with f := f' } done := by
  obtain ⟨c, h, hd⟩ := h
  exact ⟨_, h.finder hc hr hf, hd.step h.lo (fun k hk => (h.cb k hk).1) (hc.more fun k hk => by rw [h.cf k hk]; decide) fun k hk => colour_old hk⟩
theorem EncM.writer (h : EncM w b0 g c M d done) (hc : Chg w w' (foot M.Aw M.gw)) {A' : Option Addr} {n' c' : Nat} {L' : List Int} (hr : Wtr w' b0 M.gw A' n' c' L') (hf : ∀ k, foot A' M.gw k → foot M.Aw M.gw k ∨ w.heap.size ≤ k) :
    EncM w' b0 g (colour c w.heap.size (foot A' M.gw) 3) { M with Aw := A', nw := n', cw := c' } { d with L := L' } done := by
  have hF : ∀ k, (foot M.Aw M.gw) k → c k = 3 := h.cw
  have hlt : ∀ k i, c k = i → i ≠ 0 → k < w.heap.size := fun k i h1 h2 => (h.cb k (by omega)).2
  have hold : ∀ k, k < w.heap.size → colour c w.heap.size (foot A' M.gw) 3 k = c k := fun k hk => colour_old hk
  have hkeep : ∀ k i, c k = i → i ≠ 0 → colour c w.heap.size (foot A' M.gw) 3 k = i := fun k i h1 h2 => (hold k (hlt k i h1 h2)).trans h1
  exact ⟨hc.ar h.cell (fun e => by have := hF g e; have := h.cg; omega),
    hkeep _ _ h.cg (by decide),
    by obtain ⟨nm, Dm, hx⟩ := h.fnd; exact ⟨nm, Dm, hx.chg hc (fun k hk e => by have := hF k e; have := h.cf k hk; omega)⟩,
    fun k hk => hkeep k 2 (h.cf k hk) (by decide),
    hr,
    fun k hk => by
      rcases Nat.lt_or_ge k w.heap.size with h1 | h1
      · rcases hf k hk with h2 | h2
        · exact hkeep k 3 (h.cw k h2) (by decide)
        · omega
      · exact colour_new h1 hk,
    hc.ownI h.raw (fun k hk e => by have := hF k e; have := h.cr k hk; omega),
    fun k hk => hkeep k 4 (h.cr k hk) (by decide),
    ⟨h.tok.1, hc.own h.tok.2 (fun k hk e => by have := hF k e; have := h.ct k hk; omega)⟩,
    fun k hk => hkeep k 5 (h.ct k hk) (by decide),
    fun k hk => by
      rcases colour_ne hk with ⟨h1, h2⟩ | ⟨h1, h2⟩
      · exact ⟨(h.cb k h2).1, Nat.lt_of_lt_of_le h1 hc.size⟩
      · exact hr.foot_lo h2⟩
theorem EncS.writer (h : EncS w0 c0 w b0 g M d done) (hc : Chg w w' (foot M.Aw M.gw)) {A' : Option Addr} {n' c' : Nat} {L' : List Int} (hr : Wtr w' b0 M.gw A' n' c' L') (hf : ∀ k, foot A' M.gw k → foot M.Aw M.gw k ∨ w.heap.size ≤ k) :
    EncS w0 c0 w' b0 g { M with Aw := A', nw := n', cw := c' } { d with L := L' } done := by
  obtain ⟨c, h, hd⟩ := h
  exact ⟨_, h.writer hc hr hf, hd.step h.lo (fun k hk => (h.cb k hk).1) (hc.more fun k hk => by rw [h.cw k hk]; decide) fun k hk => colour_old hk⟩
theorem EncM.raws (h : EncM w b0 g c M d done) (hc : Chg w w' (fun k => k = g ∨ blkOf M.Ar = some k)) {A' : Option Addr} {n' c' : Nat} {l' : List Int} {done' : Bool} (ha : Ar w' g 6 (eF { M with Ar := A', nr := n', cr := c' } d.lev done')) (hr : OwnI .u8 w' b0 5 A' n' c' l') (hf : ∀ k, blkOf A' = some k → blkOf M.Ar = some k ∨ w.heap.size ≤ k) :
    EncM w' b0 g (colour c w.heap.size (fun k => blkOf A' = some k) 4) { M with Ar := A', nr := n', cr := c' } { d with raw := l' } done' := by
  have hF : ∀ k, (fun k => k = g ∨ blkOf M.Ar = some k) k → c k = 1 ∨ c k = 4 := fun k hk => by
    rcases hk with rfl | hk
    · exact .inl h.cg
    · exact .inr (h.cr k hk)
  have hlt : ∀ k i, c k = i → i ≠ 0 → k < w.heap.size := fun k i h1 h2 => (h.cb k (by omega)).2
  have hold : ∀ k, k < w.heap.size → colour c w.heap.size (fun k => blkOf A' = some k) 4 k = c k := fun k hk => colour_old hk
  have hkeep : ∀ k i, c k = i → i ≠ 0 → colour c w.heap.size (fun k => blkOf A' = some k) 4 k = i := fun k i h1 h2 => (hold k (hlt k i h1 h2)).trans h1
  exact ⟨ha,
    hkeep _ _ h.cg (by decide),
    by obtain ⟨nm, Dm, hx⟩ := h.fnd; exact ⟨nm, Dm, hx.chg hc (fun k hk e => by have := hF k e; have := h.cf k hk; omega)⟩,
    fun k hk => hkeep k 2 (h.cf k hk) (by decide),
    h.wtr.chg hc (fun k hk e => by have := hF k e; have := h.cw k hk; omega),
    fun k hk => hkeep k 3 (h.cw k hk) (by decide),
    hr,
    fun k hk => by
      rcases Nat.lt_or_ge k w.heap.size with h1 | h1
      · rcases hf k hk with h2 | h2
        · exact hkeep k 4 (h.cr k h2) (by decide)
        · omega
      · exact colour_new h1 hk,
    ⟨h.tok.1, hc.own h.tok.2 (fun k hk e => by have := hF k e; have := h.ct k hk; omega)⟩,
    fun k hk => hkeep k 5 (h.ct k hk) (by decide),
    fun k hk => by
      rcases colour_ne hk with ⟨h1, h2⟩ | ⟨h1, h2⟩
      · exact ⟨(h.cb k h2).1, Nat.lt_of_lt_of_le h1 hc.size⟩
      · exact hr.2.lt h2⟩
theorem EncS.raws (h : EncS w0 c0 w b0 g M d done) (hc : Chg w w' (fun k => k = g ∨ blkOf M.Ar = some k)) {A' : Option Addr} {n' c' : Nat} {l' : List Int} {done' : Bool} (ha : Ar w' g 6 (eF { M with Ar := A', nr := n', cr := c' } d.lev done')) (hr : OwnI .u8 w' b0 5 A' n' c' l') (hf : ∀ k, blkOf A' = some k → blkOf M.Ar = some k ∨ w.heap.size ≤ k) :
    EncS w0 c0 w' b0 g { M with Ar := A', nr := n', cr := c' } { d with raw := l' } done' := by
  obtain ⟨c, h, hd⟩ := h
  exact ⟨_, h.raws hc ha hr hf, hd.step h.lo (fun k hk => (h.cb k hk).1) (hc.more fun k hk => by
    rcases hk with rfl | hk
    · rw [h.cg]; decide
    · rw [h.cr k hk]; decide) fun k hk => colour_old hk⟩
theorem EncM.tokens (h : EncM w b0 g c M d done) (hc : Chg w w' (fun k => k = g ∨ blkOf M.At = some k)) {A' : Option Addr} {n' c' : Nat} {l' : List Tok} {done' : Bool} (ha : Ar w' g 6 (eF { M with At := A', nt := n', ct := c' } d.lev done')) (hr : OwnT w' b0 A' n' c' l') (hf : ∀ k, blkOf A' = some k → blkOf M.At = some k ∨ w.heap.size ≤ k) :
    EncM w' b0 g (colour c w.heap.size (fun k => blkOf A' = some k) 5) { M with At := A', nt := n', ct := c' } { d with toks := l' } done' := by
  have hF : ∀ k, (fun k => k = g ∨ blkOf M.At = some k) k → c k = 1 ∨ c k = 5 := fun k hk => by
    rcases hk with rfl | hk
    · exact .inl h.cg
    · exact .inr (h.ct k hk)
  have hlt : ∀ k i, c k = i → i ≠ 0 → k < w.heap.size := fun k i h1 h2 => (h.cb k (by omega)).2
  have hold : ∀ k, k < w.heap.size → colour c w.heap.size (fun k => blkOf A' = some k) 5 k = c k := fun k hk => colour_old hk
  have hkeep : ∀ k i, c k = i → i ≠ 0 → colour c w.heap.size (fun k => blkOf A' = some k) 5 k = i := fun k i h1 h2 => (hold k (hlt k i h1 h2)).trans h1
  exact ⟨ha,
    hkeep _ _ h.cg (by decide),
    by obtain ⟨nm, Dm, hx⟩ := h.fnd; exact ⟨nm, Dm, hx.chg hc (fun k hk e => by have := hF k e; have := h.cf k hk; omega)⟩,
    fun k hk => hkeep k 2 (h.cf k hk) (by decide),
    h.wtr.chg hc (fun k hk e => by have := hF k e; have := h.cw k hk; omega),
    fun k hk => hkeep k 3 (h.cw k hk) (by decide),
    hc.ownI h.raw (fun k hk e => by have := hF k e; have := h.cr k hk; omega),
    fun k hk => hkeep k 4 (h.cr k hk) (by decide),
    hr,
    fun k hk => by
      rcases Nat.lt_or_ge k w.heap.size with h1 | h1
      · rcases hf k hk with h2 | h2
        · exact hkeep k 5 (h.ct k h2) (by decide)
        · omega
      · exact colour_new h1 hk,
    fun k hk => by
      rcases colour_ne hk with ⟨h1, h2⟩ | ⟨h1, h2⟩
      · exact ⟨(h.cb k h2).1, Nat.lt_of_lt_of_le h1 hc.size⟩
      · exact hr.2.lt h2⟩
theorem EncS.tokens (h : EncS w0 c0 w b0 g M d done) (hc : Chg w w' (fun k => k = g ∨ blkOf M.At = some k)) {A' : Option Addr} {n' c' : Nat} {l' : List Tok} {done' : Bool} (ha : Ar w' g 6 (eF { M with At := A', nt := n', ct := c' } d.lev done')) (hr : OwnT w' b0 A' n' c' l') (hf : ∀ k, blkOf A' = some k → blkOf M.At = some k ∨ w.heap.size ≤ k) :
    EncS w0 c0 w' b0 g { M with At := A', nt := n', ct := c' } { d with toks := l' } done' := by
  obtain ⟨c, h, hd⟩ := h
  exact ⟨_, h.tokens hc ha hr hf, hd.step h.lo (fun k hk => (h.cb k hk).1) (hc.more fun k hk => by
    rcases hk with rfl | hk
    · rw [h.cg]; decide
    · rw [h.ct k hk]; decide) fun k hk => colour_old hk⟩
theorem OwnT.keeps {n k : Nat} {A : Option Addr} {l : List Tok} (h : OwnT w b0 A n k l) (hb : Below w.heap.size w w') : OwnT w' b0 A n k l := ⟨h.1, h.2.below hb fun _ hg => (h.2.lt hg).2⟩
theorem EncM.keeps (h : EncM w b0 g c M d done) (hb : Below w.heap.size w w') : EncM w' b0 g c M d done :=
  ⟨h.cell.keeps hb, h.cg, by obtain ⟨nm, Dm, hx⟩ := h.fnd; exact ⟨nm, Dm, hx.keeps hb⟩, h.cf, h.wtr.keeps hb, h.cw, h.raw.keeps hb, h.cr, h.tok.keeps hb, h.ct,
    fun k hk => ⟨(h.cb k hk).1, Nat.lt_of_lt_of_le (h.cb k hk).2 hb.size⟩⟩
theorem EncS.keeps (h : EncS w0 c0 w b0 g M d done) (hb : Below w.heap.size w w') : EncS w0 c0 w' b0 g M d done := by
  obtain ⟨c, h, hd⟩ := h
  exact ⟨c, h.keeps hb, hd.step h.lo (fun k hk => (h.cb k hk).1) (Chg.of_below hb) fun _ _ => rfl⟩
theorem EncM.cells (h : EncM w b0 g c M d done) : w.cell? ⟨g, 0, none⟩ = some (.pointer (some ⟨M.gf, 0, none⟩)) ∧ w.cell? ⟨g, 1, none⟩ = some (.pointer (some ⟨M.gw, 0, none⟩)) ∧ w.cell? ⟨g, 2, none⟩ = some (.int .i64 d.lev) ∧ w.cell? ⟨g, 3, none⟩ = some (.slice M.Ar M.nr M.cr) ∧ w.cell? ⟨g, 4, none⟩ = some (.slice M.At M.nt M.ct) ∧ w.cell? ⟨g, 5, none⟩ = some (.bool done) :=
  ⟨h.cell.cell (i := 0) (by omega), h.cell.cell (i := 1) (by omega), h.cell.cell (i := 2) (by omega), h.cell.cell (i := 3) (by omega), h.cell.cell (i := 4) (by omega), h.cell.cell (i := 5) (by omega)⟩
end
end Go.Proofs.Ytlgkiookobedcaa
namespace Go.Proofs.Ytlgkiookobedcaa
open Go.RowKit
set_option linter.unusedVariables false
theorem lensT_take {l : List Tok} {k : Nat} (h : k < l.length) : lensT (l.take (k + 1)) = lensT (l.take k) + lenT (tokAt l k) := by rw [tok_take h]; simp [lensT]
theorem lensT_le {l : List Tok} (h : ∀ t ∈ l, soundT t) : lensT l ≤ 258 * l.length := by
  induction l with
  | nil => simp [lensT]
  | cons t l ih =>
    have h1 := lenT_bd (h t List.mem_cons_self)
    have h2 := ih fun u hu => h u (List.mem_cons_of_mem _ hu)
    have : lensT (t :: l) = lenT t + lensT l := by simp [lensT]
    rw [List.length_cons]; omega
set_option maxRecDepth 100000 in
set_option maxHeartbeats 2000000 in
theorem dlength_any (w : World) (At : Option Addr) (nt ct : Nat) (toks : List Tok) (hT : RdT w w.heap.size At nt toks) (hnt : nt ≤ 4000000000000) (hs : ∀ t ∈ toks, soundT t) :
    Calls Try.prog 42 #[.slice At nt ct] w fun e w' => e = .returned (.int .i64 ((lensT toks : Nat) : Int)) ∧ Below w.heap.size w w' := by
  have HT := Lib.hid (⟨hT, hT.1, hnt, hs⟩ : _ ∧ _ ∧ _ ∧ _)
  have hntI : (0 : Int) ≤ (nt : Int) ∧ (nt : Int) ≤ 4000000000000 := by omega
  clear hT hnt hs
  go_enter Try.func42, Try.ntmps42
  go_wp2_with fail
  go_loopg [3, 8] nt (fun (gk : Nat) (v3 v8 : Value) wx => ∃ k s : Nat, v3 = .int .i64 s ∧ v8 = .int .i64 k ∧ k ≤ nt ∧ Hid (s = lensT (toks.take k)) ∧ Hid (Below w.heap.size w wx) ∧ Hid (gk = nt - k))
  case atStart => exact ⟨0, 0, rfl, rfl, Nat.zero_le _, rfl, Below.refl _ _, rfl⟩
  case round =>
    obtain ⟨k, s, rfl, rfl, hk, hs, hb, hg⟩ := hrel
    by_cases hlt : k < nt
    · have hkI : (k : Int) < (nt : Int) ∧ (0 : Int) ≤ (k : Int) := by omega
      obtain ⟨ad, hA, hbl, hcs⟩ := (HT.out.1.below hb.out).2 (by omega)
      obtain ⟨a0, a1, a2⟩ := hcs k hlt
      rw [addr_next _ _ _ (by omega)] at a1 a2
      have hnx := lensT_take (l := toks) (k := k) (by rw [← HT.out.2.1]; exact hlt)
      have hsd := HT.out.2.2.2 _ (HT.out.1.sound_at hlt)
      have hle := lensT_le (l := toks.take k) fun t ht => HT.out.2.2.2 t (List.mem_of_mem_take ht)
      have hle3 : (toks.take k).length ≤ k := by rw [List.length_take]; exact Nat.min_le_left _ _
      obtain ⟨⟨T0, N, D⟩, ht⟩ : ∃ t : Tok, tokAt toks k = t := ⟨_, rfl⟩
      rw [ht] at a0 a1 a2 hnx hsd
      replace a0 : wr.cell? (ad.add (k * 3)) = some (.int .u8 T0) := a0
      replace a1 : wr.cell? { block := (ad.add (k * 3)).block, off := (ad.add (k * 3)).off + 1 } = some (.int .i64 N) := a1
      replace a2 : wr.cell? { block := (ad.add (k * 3)).block, off := (ad.add (k * 3)).off + 2 } = some (.int .i64 D) := a2
      obtain ⟨q, hq⟩ : ∃ q : Nat, lenT ⟨T0, N, D⟩ = q := ⟨_, rfl⟩
      have hqI : max N 1 = (q : Int) := by rw [← hq, show lenT ⟨T0, N, D⟩ = (max N 1).toNat from rfl]; omega
      have hqb := lenT_bd hsd
      rw [hq] at hnx hqb
      have HX := Lib.hid (show lensT (toks.take (k + 1)) = s + q by rw [hnx, hs.out])
      have hsb : (s : Int) ≤ 2000000000000000 ∧ (0 : Int) ≤ (s : Int) ∧ (0 : Int) ≤ (q : Int) ∧ (q : Int) ≤ 258 := by have := hs.out; have := HT.out.2.2.1; omega
      have HLT := Lib.hid hlt
      have hbA := Lib.hid (hb.out.alloc hb.out.size (.cells #[.int .u8 T0, .int .i64 N, .int .i64 D] 68))
      subst hA
      clear hbl hcs ht hlt hnx hle hle3 hsd hq hqb
      go_wp2_with fail
      go_roundg (nt - (k + 1))
      case measure => have := hg.out; have := HLT.out; omega
      case rel => exact ⟨k + 1, s + q, by go_num, by go_num, HLT.out, HX.out.symm, hbA.out, rfl⟩
    · obtain rfl : k = nt := by omega
      have hkI : ¬ (k : Int) < (k : Int) := by omega
      have htk : toks.take k = toks := List.take_of_length_le (by rw [← HT.out.2.1]; exact Nat.le_refl _)
      have HS := hs
      rw [htk] at HS
      clear hlt htk hs
      go_wp2_with fail
      go_ret
      exact ⟨ret_int (by rw [HS.out]), hb.out⟩
theorem fullE_here {l : List Tok} {k s q : Nat} (hk : k < l.length) (hq : lenT (tokAt l k) = q) (h : fullGo s k (l.drop k) = fullE l) : (16384 ≤ s + q → fullE l = k + 1) ∧ (¬ 16384 ≤ s + q → fullGo (s + q) (k + 1) (l.drop (k + 1)) = fullE l) := by
  rw [RdT.drop_ rfl hk] at h
  unfold fullGo at h
  rw [hq] at h
  constructor
  · intro h1; rw [if_pos h1] at h; exact h.symm
  · intro h1; rw [if_neg h1] at h; exact h
set_option maxRecDepth 100000 in
set_option maxHeartbeats 4000000 in
theorem dfull_any (w : World) (g : Nat) (At : Option Addr) (nt ct : Nat) (toks : List Tok) (c4 : w.cell? ⟨g, 4, none⟩ = some (.slice At nt ct)) (hT : RdT w w.heap.size At nt toks) (hnt : nt ≤ 4000000000000) (hs : ∀ t ∈ toks, soundT t) :
    Calls Try.prog 26 #[.pointer (some ⟨g, 0, none⟩)] w fun e w' => e = .returned (.int .i64 ((fullE toks : Nat) : Int)) ∧ Below w.heap.size w w' := by
  have HT := Lib.hid (⟨hT, hT.1, hnt, hs⟩ : _ ∧ _ ∧ _ ∧ _)
  have hntI : (0 : Int) ≤ (nt : Int) ∧ (nt : Int) ≤ 4000000000000 := by omega
  clear hT hnt hs
  go_enter Try.func26, Try.ntmps26
  go_wp2_with fail
  go_loopg [3, 11] nt (fun (gk : Nat) (v3 v11 : Value) wx => ∃ k s : Nat, v3 = .int .i64 s ∧ v11 = .int .i64 k ∧ k ≤ nt ∧ s < 16384 ∧ Hid (fullGo s k (toks.drop k) = fullE toks) ∧ Hid (Below w.heap.size w wx) ∧ Hid (gk = nt - k))
  case atStart => exact ⟨0, 0, rfl, rfl, Nat.zero_le _, by omega, rfl, Below.refl _ _, rfl⟩
  case round =>
    obtain ⟨k, s, rfl, rfl, hk, hsl, hs, hb, hg⟩ := hrel
    by_cases hlt : k < nt
    · have hkI : (k : Int) < (nt : Int) ∧ (0 : Int) ≤ (k : Int) := by omega
      obtain ⟨ad, hA, hbl, hcs⟩ := (HT.out.1.below hb.out).2 (by omega)
      obtain ⟨a0, a1, a2⟩ := hcs k hlt
      rw [addr_next _ _ _ (by omega)] at a1 a2
      have hsd := HT.out.2.2.2 _ (HT.out.1.sound_at hlt)
      have hfe := fun q hq => fullE_here (l := toks) (k := k) (s := s) (q := q) (by rw [← HT.out.2.1]; exact hlt) hq hs.out
      obtain ⟨⟨T0, N, D⟩, ht⟩ : ∃ t : Tok, tokAt toks k = t := ⟨_, rfl⟩
      rw [ht] at a0 a1 a2 hsd hfe
      replace a0 : wr.cell? (ad.add (k * 3)) = some (.int .u8 T0) := a0
      replace a1 : wr.cell? { block := (ad.add (k * 3)).block, off := (ad.add (k * 3)).off + 1 } = some (.int .i64 N) := a1
      replace a2 : wr.cell? { block := (ad.add (k * 3)).block, off := (ad.add (k * 3)).off + 2 } = some (.int .i64 D) := a2
      obtain ⟨q, hq⟩ : ∃ q : Nat, lenT ⟨T0, N, D⟩ = q := ⟨_, rfl⟩
      have hqI : max N 1 = (q : Int) := by rw [← hq, show lenT ⟨T0, N, D⟩ = (max N 1).toNat from rfl]; omega
      have hqb := lenT_bd hsd
      have hf2 := hfe q hq
      rw [hq] at hqb
      have hsb : (s : Int) ≤ 16384 ∧ (0 : Int) ≤ (s : Int) ∧ (0 : Int) ≤ (q : Int) ∧ (q : Int) ≤ 258 := by omega
      have HLT := Lib.hid hlt
      have HF2 := Lib.hid hf2
      have hbA := Lib.hid (hb.out.alloc hb.out.size (.cells #[.int .u8 T0, .int .i64 N, .int .i64 D] 68))
      subst hA
      clear hbl hcs ht hlt hsd hq hqb hfe hf2
      by_cases hful : 16384 ≤ s + q
      · have hfI : (16384 : Int) ≤ (s : Int) + (q : Int) := by omega
        have HFE := Lib.hid (HF2.out.1 hful)
        clear hful HF2
        go_wp2_with fail
        go_ret
        exact ⟨ret_int (by rw [HFE.out]; omega), hbA.out⟩
      · have hfI : decide ((16384 : Int) ≤ (s : Int) + (q : Int)) = false := by simp; omega
        have HFE := Lib.hid (HF2.out.2 hful)
        have HFL := Lib.hid hful
        clear hful HF2
        go_wp2_with fail
        go_roundg (nt - (k + 1))
        case measure => have := hg.out; have := HLT.out; omega
        case rel => exact ⟨k + 1, s + q, by go_num, by go_num, HLT.out, by have := HFL.out; omega, HFE.out, hbA.out, rfl⟩
    · obtain rfl : k = nt := by omega
      have hkI : ¬ (k : Int) < (k : Int) := by omega
      have htk : toks.drop k = [] := List.drop_of_length_le (by rw [← HT.out.2.1]; exact Nat.le_refl _)
      have HS := hs
      rw [htk] at HS
      clear hlt htk hs
      go_wp2_with fail
      go_ret
      exact ⟨ret_int (by rw [← HS.out]; rfl), hb.out⟩
end Go.Proofs.Ytlgkiookobedcaa
namespace Go.Proofs.Ytlgkiookobedcaa
open Go.RowKit
set_option linter.unusedVariables false
theorem dtok_info : (Try.prog.info? 68).map (fun i => (i.zero, i.size, i.bytes)) = some (some (.agg #[.int .u8 0, .int .i64 0, .int .i64 0]), 3, 24) := by kernel_rfl
theorem dbyte_info : (Try.prog.info? 5).map (fun i => (i.zero, i.size, i.bytes)) = some (some (.int .u8 0), 1, 1) := by kernel_rfl
set_option maxRecDepth 100000 in
set_option maxHeartbeats 4000000 in
theorem lay_any (w : World) (b0 g : Nat) (c : Nat → Nat) (M : EM) (d : DSt) (done : Bool) (h : EncM w b0 g c M d done) (hs : ∀ t ∈ d.toks, soundT t) (hlit : ∀ t ∈ d.toks, 0 ≤ t.lit ∧ t.lit < 256) (hby : ∀ x ∈ d.raw, 0 ≤ x ∧ x < 256) (count : Nat) (hc : count ≤ d.toks.length)
    (hn : lensT (d.toks.take count) ≤ 65535) (hn2 : lensT (d.toks.take count) ≤ d.raw.length) (hL : d.L.length ≤ 2000000000000) (htl : d.toks.length ≤ 1000000000) (hrl : d.raw.length ≤ 900000000000) (last : Bool) :
    Calls Try.prog 27 #[.pointer (some ⟨g, 0, none⟩), .int .i64 count, .bool last] w fun e w' => e = .returned (.tuple #[]) ∧ ∃ M', EncS w c w' b0 g M' (layD d count last) done := by
  obtain ⟨i0, hi, hz0, hz1, hz2⟩ := info_parts dtok_info
  obtain ⟨i1, ki, kz0, kz1, kz2⟩ := info_parts dbyte_info
  obtain ⟨c0, c1, c2, c3, c4, c5⟩ := h.cells
  have hct : count ≤ M.ct := by have h1 := h.tok.1; have h2 := h.tok.2.capLe; omega
  obtain ⟨N, hN⟩ : ∃ N, lensT (d.toks.take count) = N := ⟨_, rfl⟩
  have hcr : N ≤ M.cr := by have h1 := h.raw.1; have h2 := h.raw.2.capLe; omega
  have hsl1 : ∀ W, (Instr.slice 34 (.slice M.At M.nt M.ct) none (some (.int .i64 (count : Int))) (some (.int .i64 (count : Int)))).run Try.prog W = .ok (.slice M.At count count) W := fun W => run_slice_cap (P := Try.prog) 34 68 Try.underlying34 hi M.At M.nt M.ct hct W
  have hsl2 : ∀ W, (Instr.slice 22 (.slice M.Ar M.nr M.cr) none (some (.int .i64 (N : Int))) (some (.int .i64 (N : Int)))).run Try.prog W = .ok (.slice M.Ar N N) W := fun W => run_slice_cap (P := Try.prog) 22 5 Try.underlying22 ki M.Ar M.nr M.cr hcr W
  have hTp : RdT w w.heap.size M.At count (d.toks.take count) := h.tok.rd.pre (by have h1 := h.tok.1; omega)
  have hDL := dlength_any w M.At count count (d.toks.take count) hTp (by omega) fun t ht => hs t (List.mem_of_mem_take ht)
  rw [hN] at hDL
  have HDL := Lib.hid hDL
  have HH := Lib.hid (⟨h, hs, hlit, hby, hc, hn, hn2, hL, hN⟩ : _ ∧ _ ∧ _ ∧ _ ∧ _ ∧ _ ∧ _ ∧ _ ∧ _)
  have HRL := Lib.hid hrl
  have HRL2 := Lib.hid htl
  have Hi := Lib.hid (⟨hi, hz0, hz1, hz2⟩ : _ ∧ _ ∧ _ ∧ _)
  have Ki := Lib.hid (⟨ki, kz0, kz1, kz2⟩ : _ ∧ _ ∧ _ ∧ _)
  have hcI : (0 : Int) ≤ (count : Int) ∧ (count : Int) ≤ 1000000000 := by omega
  have hNI : (0 : Int) ≤ (N : Int) ∧ (N : Int) ≤ 65535 := by omega
  clear hi hz0 hz1 hz2 ki kz0 kz1 kz2 hs hlit hby hc hn hn2 hL htl hTp hDL h
  go_enter Try.func27, Try.ntmps27
  go_wp2_with fail
  refine HDL.out.mono ?_
  rintro e w1 ⟨rfl, hb1⟩
  have HE1 := Lib.hid (HH.out.1.keeps hb1)
  obtain ⟨d0, d1, d2, d3, d4, d5⟩ := HE1.out.cells
  have HB1 := Lib.hid hb1
  clear hb1 c0 c1 c2 c3 c4 c5
  obtain ⟨LL, hLL⟩ : ∃ L, (layD d count last).L = L := ⟨_, rfl⟩
  have hsep : ∀ (B : Option Addr) (i : Nat), (∀ k, blkOf B = some k → c k = i) → i ≠ 3 → ∀ ad, B = some ad → ¬ foot M.Aw M.gw ad.block := fun B i hB hi ad e hk => by
    have h1 := hB ad.block (by rw [e]; rfl)
    have h2 := HE1.out.cw _ hk
    omega
  have hrd := HE1.out.raw.rd.pre (j := N) (by have h1 := HE1.out.raw.1; have h2 := HH.out; omega)
  have htk := HE1.out.tok.rd.pre (j := count) (by have h1 := HE1.out.tok.1; have h2 := HH.out; omega)
  have hlt : ∀ t ∈ d.toks.take count, 0 ≤ t.lit ∧ t.lit < 256 := fun t ht => HH.out.2.2.1 t (List.mem_of_mem_take ht)
  have hbr : ∀ x ∈ d.raw.take N, 0 ≤ x ∧ x < 256 := fun x hx => HH.out.2.2.2.1 x (List.mem_of_mem_take hx)
  obtain ⟨k0, k1, k2⟩ := layK_ok (lev := d.lev) (l := d.toks.take count) (fun t ht => HH.out.2.1 t (List.mem_of_mem_take ht)) hlt HH.out.2.2.2.2.2.1
  rw [HH.out.2.2.2.2.2.2.2.2] at k2
  have hLLd : LL = outB (layK d.lev (d.toks.take count)) (if d.lev ≤ 0 then [] else d.toks.take count) (d.raw.take N) last d.L := by
    rw [← hLL, ← HH.out.2.2.2.2.2.2.2.2]; rfl
  have hput : ∀ W, BkS w1 W b0 M.gw M.Aw LL → ∃ Aw nw cw, EncS w c W b0 g { M with Aw := Aw, nw := nw, cw := cw } { d with L := LL } done := fun W hb => by
    obtain ⟨⟨A', n', c', q1, q2⟩, q3⟩ := hb
    exact ⟨A', n', c', (HH.out.1.refl.keeps HB1.out).writer q3 q1 fun k hk => by
      rcases hk with hk | hk
      · exact .inl (.inl hk)
      · rcases q2 k hk with h | h
        · exact .inl (.inr h)
        · exact .inr h⟩
  have HWK : Hid (d.lev ≤ 0 → Calls Try.prog 29 #[.pointer (some ⟨M.gw, 0, none⟩), .int .i64 0, .slice none 0 0, .slice M.Ar N N, .bool last] w1 fun e w' => e = .returned (.bool true) ∧ BkS w1 w' b0 M.gw M.Aw LL) := fun hl => by
    have hz := k0 hl
    rw [if_pos hl] at k2 hLLd
    rw [hz] at k2 hLLd
    rw [hLLd]
    exact wkind_any w1 b0 M.gw M.nw M.cw M.Aw _ HE1.out.wtr 0 none 0 0 [] ⟨rfl, fun h => absurd h (by decide)⟩ (by decide) (fun h => absurd h (by decide)) (fun t ht => by simp at ht) M.Ar N N (d.raw.take N) hrd (fun _ => hsep M.Ar 4 HE1.out.cr (by decide)) hbr last k2 HH.out.2.2.2.2.2.2.2.1
  have HWR : Hid (¬ d.lev ≤ 0 → Calls Try.prog 43 #[.pointer (some ⟨M.gw, 0, none⟩), .slice M.At count count, .slice M.Ar N N, .bool last] w1 fun e w' => (∃ q : Int, e = .returned (.int .i64 q)) ∧ BkS w1 w' b0 M.gw M.Aw LL) := fun hl => by
    rw [if_neg hl] at hLLd
    have hk : layK d.lev (d.toks.take count) = (pickK (cstK (d.toks.take count) N) 3).1 := by unfold layK; rw [if_neg hl, HH.out.2.2.2.2.2.2.2.2]
    rw [hk] at hLLd k1
    refine (bwrite_any w1 b0 M.gw M.nw M.cw M.Aw _ HE1.out.wtr M.At count count (d.toks.take count) htk (by omega) (fun _ => hsep M.At 5 HE1.out.ct (by decide)) hlt M.Ar N N (d.raw.take N) hrd (fun _ => hsep M.Ar 4 HE1.out.cr (by decide)) hbr last HH.out.2.2.2.2.2.2.2.1).mono fun e w' hp => ?_
    obtain ⟨h1, h2⟩ := hp
    refine ⟨⟨_, h1⟩, ?_⟩
    rcases h2 with ⟨h3, _⟩ | ⟨_, h3⟩
    · omega
    · rw [hLLd]; exact h3
  have HPUT := Lib.hid hput
  have HLL := Lib.hid hLL
  clear hsep hrd htk hlt hbr k0 k1 k2 hLLd hput hLL
  go_upto_if 29 with fail
  go_cut [] (fun wx => Hid (∃ Aw nw cw, EncS w c wx b0 g { M with Aw := Aw, nw := nw, cw := cw } { d with L := LL } done))
  case first =>
    by_cases hl : d.lev ≤ 0
    · have HX := Lib.hid (HWK.out hl)
      go_wp2_with fail
      refine HX.out.mono ?_
      rintro e w2 ⟨rfl, h2⟩
      have H2 := Lib.hid (HPUT.out _ h2)
      clear h2
      go_wp2_with fail
      go_meet
      exact H2.out
    · have HX := Lib.hid (HWR.out (by omega))
      have hlI : decide (d.lev ≤ 0) = false := by simpa using hl
      go_wp2_with fail
      refine HX.out.mono ?_
      rintro e w2 ⟨⟨q, rfl⟩, h2⟩
      have H2 := Lib.hid (HPUT.out _ h2)
      clear h2
      go_wp2_with fail
      go_meet
      exact H2.out
  case rest =>
    obtain ⟨Aw, nw, cw, cc, hE2, hde2⟩ := hcut.out
    have hnr : N ≤ M.nr ∧ M.nr ≤ M.cr ∧ M.nr ≤ 900000000000 := by
      have h1 := hE2.raw.1
      have h2 := hE2.raw.2.capLe
      have h3 := HH.out
      have h4 : M.nr = d.raw.length := h1
      exact ⟨by omega, h2, by have := h3.2.2.2.2.2.2.2.2; have := HRL.out; omega⟩
    have hbA := (Below.refl wc.heap.size wc).alloc (Nat.le_refl _) (.cells #[] 5)
    obtain ⟨f0, f1, f2, f3, f4, f5⟩ := (hE2.keeps hbA).cells
    have hsf := run_slice_from (P := Try.prog) 22 5 Try.underlying22 Ki.out.1 Ki.out.2.2.1 M.Ar M.nr M.cr hnr.1
    have hrA : RdI .u8 (wc.alloc (.cells #[] 5)) wc.heap.size (cutA M.Ar M.cr N) (M.nr - N) (d.raw.drop N) := ((hE2.raw.rd.cutA (j := N) hnr.1 hnr.2.1).below hbA)
    have H2 := Lib.hid (⟨hE2, hde2⟩ : _ ∧ _)
    have hnrI : (N : Int) ≤ (M.nr : Int) := by omega
    clear hcut hE2 hde2 HWK HWR HPUT HDL d0 d1 d2 d3 d4 d5 hsl1 hsl2 hbA
    go_upto_region 7 with (at_builtin; (refine wpList_app .u8 wc.heap.size 5 i1 1 rfl (.tmp 46) (.tmp 52) _ rfl Try.underlying22 Ki.out.1 Ki.out.2.1 Ki.out.2.2.1 Ki.out.2.2.2 rfl (OwnI.lit rfl [] _ (Nat.le_refl _) (by simp)) rfl hrA (by simp; omega) (by omega) (by simp) ?_)
                           intro A2 q2 w2 ho2 hg2 hat2
                           simp only [List.nil_append, Nat.zero_add] at ho2
                           have hb2 : Below wc.heap.size wc w2 := ((Below.refl wc.heap.size wc).alloc (Nat.le_refl _) _).grown hg2 (by simp) (by simp [blkOf])
                           have hE3 := H2.out.1.keeps hb2
                           have y3 := hE3.cell.cell (i := 3) (by omega)
                           have z3 := hE3.cell.frozen' (i := 3) (by omega))
    have hgl : g < wc.heap.size := H2.out.1.cell.lt
    have hA2 : ∀ k, blkOf A2 = some k → wc.heap.size ≤ k := fun k hk => (ho2.2.lt hk).1
    have hcc : Chg wc (w2.setCell ⟨g, 3, none⟩ (.slice A2 (M.nr - N) q2)) (fun k => k = g ∨ blkOf M.Ar = some k) := (Chg.of_below hb2).setCell (.inl (.inl rfl)) _
    have har : Ar (w2.setCell ⟨g, 3, none⟩ (.slice A2 (M.nr - N) q2)) g 6 (eF { M with Aw := Aw, nw := nw, cw := cw, Ar := A2, nr := M.nr - N, cr := q2 } d.lev done) := (hE3.cell.set_ (i := 3) (by omega) _).congr (fun j hj => by
      obtain rfl | rfl | rfl | rfl | rfl | rfl : j = 0 ∨ j = 1 ∨ j = 2 ∨ j = 3 ∨ j = 4 ∨ j = 5 := by omega
      all_goals rfl)
    have hown : OwnI .u8 (w2.setCell ⟨g, 3, none⟩ (.slice A2 (M.nr - N) q2)) b0 5 A2 (M.nr - N) q2 (d.raw.drop N) := (ho2.far (p := ⟨g, 3, none⟩) (fun e => by have := hA2 g e; omega) _).more H2.out.1.lo
    have hS : EncS w c wc b0 g { M with Aw := Aw, nw := nw, cw := cw } { d with L := LL } done := ⟨cc, H2.out.1, H2.out.2⟩
    obtain ⟨c3, hE4, hde4⟩ := hS.raws hcc har hown (fun k hk => .inr (hA2 k hk))
    obtain ⟨wD, hwD⟩ : ∃ W, w2.setCell ⟨g, 3, none⟩ (.slice A2 (M.nr - N) q2) = W := ⟨_, rfl⟩
    rw [hwD] at hE4 hde4
    rw [hwD]
    have hnt : count ≤ M.nt ∧ M.nt ≤ M.ct := by
      have h1 : M.nt = d.toks.length := hE4.tok.1
      exact ⟨by have := HH.out; omega, hE4.tok.2.capLe⟩
    have hntb : M.nt ≤ 1000000000 := by have h1 : M.nt = d.toks.length := hE4.tok.1; have := HRL2.out; omega
    have hbA := (Below.refl wD.heap.size wD).alloc (Nat.le_refl _) (.cells #[] 68)
    have hF4 := (hE4.keeps hbA).cells.2.2.2.2.1
    have hsf2 := run_slice_fromS (P := Try.prog) 34 68 Try.underlying34 Hi.out.1 Hi.out.2.2.1 M.At M.nt M.ct hnt.1
    have hrB : RdT (wD.alloc (.cells #[] 68)) wD.heap.size (if M.ct = count then M.At else M.At.map (·.add (count * 3))) (M.nt - count) (d.toks.drop count) := ((hE4.tok.rd.from_ (j := count) hnt.1 hnt.2).below hbA)
    have H4 := Lib.hid (⟨hE4, hde4⟩ : _ ∧ _)
    have hntI : (count : Int) ≤ (M.nt : Int) := by omega
    obtain ⟨AT, hAT⟩ : ∃ q, (if M.ct = count then M.At else M.At.map (·.add (count * 3))) = q := ⟨_, rfl⟩
    rw [hAT] at hsf2 hrB
    clear hgl hA2 hcc har hown hS hwD ho2 hg2 hat2 hb2 hE3 y3 z3 hsf hrA f0 f1 f2 f3 f4 f5 hE4 hde4 H2 hbA hAT
    go_wp2_with (at_builtin; (refine wpList_appT wD.heap.size i0 rfl (.tmp 57) (.tmp 63) rfl Hi.out.1 Hi.out.2.1 Hi.out.2.2.1 Hi.out.2.2.2 rfl (OwnT.nil0 wD _ (Nat.le_refl _)) rfl hrB (by omega) (by simp) ?_)
                 intro A5 q5 w5 ho5 hg5 hat5
                 simp only [List.nil_append, Nat.zero_add] at ho5
                 have hb5 : Below wD.heap.size wD w5 := ((Below.refl wD.heap.size wD).alloc (Nat.le_refl _) _).grown hg5 (by simp) (by simp [blkOf])
                 have hE5 := H4.out.1.keeps hb5
                 have y4 := hE5.cell.cell (i := 4) (by omega)
                 have z4 := hE5.cell.frozen' (i := 4) (by omega))
    have hgl : g < wD.heap.size := H4.out.1.cell.lt
    have hA5 : ∀ k, blkOf A5 = some k → wD.heap.size ≤ k := fun k hk => (ho5.2.lt hk).1
    have hcc : Chg wD (w5.setCell ⟨g, 4, none⟩ (.slice A5 (M.nt - count) q5)) (fun k => k = g ∨ blkOf M.At = some k) := (Chg.of_below hb5).setCell (.inl (.inl rfl)) _
    have har : Ar (w5.setCell ⟨g, 4, none⟩ (.slice A5 (M.nt - count) q5)) g 6 (eF { M with Aw := Aw, nw := nw, cw := cw, Ar := A2, nr := M.nr - N, cr := q2, At := A5, nt := M.nt - count, ct := q5 } d.lev done) := (hE5.cell.set_ (i := 4) (by omega) _).congr (fun j hj => by
      obtain rfl | rfl | rfl | rfl | rfl | rfl : j = 0 ∨ j = 1 ∨ j = 2 ∨ j = 3 ∨ j = 4 ∨ j = 5 := by omega
      all_goals rfl)
    have hown : OwnT (w5.setCell ⟨g, 4, none⟩ (.slice A5 (M.nt - count) q5)) b0 A5 (M.nt - count) q5 (d.toks.drop count) := ⟨ho5.1, (ho5.2.far (p := ⟨g, 4, none⟩) (fun e => by have := hA5 g e; omega) _).more H4.out.1.lo⟩
    have hS : EncS w c wD b0 g { M with Aw := Aw, nw := nw, cw := cw, Ar := A2, nr := M.nr - N, cr := q2 } { d with L := LL, raw := d.raw.drop N } done := ⟨c3, H4.out.1, H4.out.2⟩
    have hF := hS.tokens hcc har hown (fun k hk => .inr (hA5 k hk))
    have he : layD d count last = { d with L := LL, raw := d.raw.drop N, toks := d.toks.drop count } := by rw [← HLL.out, ← HH.out.2.2.2.2.2.2.2.2]; rfl
    rw [he]
    go_end0
    exact ⟨rfl, _, hF⟩
end Go.Proofs.Ytlgkiookobedcaa
namespace Go.Proofs.Ytlgkiookobedcaa
open Go.RowKit
set_option linter.unusedVariables false
section
variable {X P : List Int} {d : DSt} {K : Nat}
structure DFacts (d : DSt) : Prop where
  snd : ∀ t ∈ d.toks, soundT t
  lit : ∀ t ∈ d.toks, 0 ≤ t.lit ∧ t.lit < 256
  by_ : ∀ x ∈ d.raw, 0 ≤ x ∧ x < 256
  nt : d.toks.length ≤ 16777216
  nr : d.raw.length ≤ 16777216
  first : ∀ count, lensT (d.toks.take count) ≤ d.raw.length
  full : 0 < fullE d.toks → 16384 ≤ lensT (d.toks.take (fullE d.toks)) ∧ lensT (d.toks.take (fullE d.toks)) ≤ 65535
  fok : d.f.Ok d.f.at_
  nD : d.f.D.length ≤ 16777216
  fby : ∀ x ∈ d.f.D, 0 ≤ x ∧ x < 256
theorem DInv.facts (h : DInv X P d) : DFacts d := by
  obtain ⟨all, kinds, stops, btoks, pre, h⟩ := h
  have hX : all.length + d.raw.length = X.length := by rw [← List.length_append, h.rwx]
  have hb := h.big
  have h1 := lensT_ge h.sound
  have h2 := (h.first d.toks.length).2
  rw [List.take_of_length_le (Nat.le_refl _)] at h2
  exact ⟨h.sound, h.lit, fun x hx => h.by_ x (by rw [← h.rwx]; exact List.mem_append_right _ hx), by omega, by omega, fun count => (h.first count).2, fun hf => by have := full_n h hf; omega, h.fok, by rw [h.fd]; exact hb, by rw [h.fd]; exact h.by_⟩
def DB (K : Nat) (X P : List Int) (d : DSt) : Prop := DInv X P d ∧ d.L.length + 100 * d.raw.length ≤ K
theorem DB.lay (h : DB K X P d) (hf : 0 < fullE d.toks) : DB K X P (layD d (fullE d.toks) false) := by
  refine ⟨h.1.lay hf, ?_⟩
  have hF := h.1.facts
  obtain ⟨all, kinds, stops, btoks, pre, h1⟩ := h.1
  have hs := lay_size h1 (fullE d.toks) false (hF.full hf).2
  have hr : (layD d (fullE d.toks) false).raw.length = d.raw.length - lensT (d.toks.take (fullE d.toks)) := List.length_drop
  have h2 := h.2
  have h3 := hF.first (fullE d.toks)
  have h4 := hF.full hf
  omega
theorem DB.more (h : DB K X P d) {K' : Nat} (hk : K ≤ K') : DB K' X P d := ⟨h.1, Nat.le_trans h.2 hk⟩
theorem DB.size (h : DB K X P d) : d.L.length ≤ K := by have := h.2; omega
theorem DInv.grow (h : DInv X P d) (x : List Int) (hx : (X ++ x).length ≤ 16777216) (hby : ∀ v ∈ x, 0 ≤ v ∧ v < 256) : DInv (X ++ x) P { d with raw := d.raw ++ x, f := writeF d.f x } := by
  obtain ⟨all, kinds, stops, btoks, pre, h⟩ := h
  exact ⟨_, _, _, _, _, h.grow x hx hby⟩
theorem DInv.toks (h : DInv X P d) (left : Nat) : DInv X P (toksD left d) := by
  obtain ⟨all, kinds, stops, btoks, pre, h⟩ := h
  exact ⟨_, _, _, _, _, (h.toksD left).1⟩
theorem DB.grow (h : DB K X P d) (x : List Int) (hx : (X ++ x).length ≤ 16777216) (hby : ∀ v ∈ x, 0 ≤ v ∧ v < 256) : DB (K + 100 * x.length) (X ++ x) P { d with raw := d.raw ++ x, f := writeF d.f x } :=
  ⟨h.1.grow x hx hby, by have := h.2; show d.L.length + 100 * (d.raw ++ x).length ≤ _; rw [List.length_append]; omega⟩
theorem DB.toks (h : DB K X P d) (left : Nat) : DB K X P (toksD left d) := ⟨h.1.toks left, h.2⟩
theorem DB.drain (h : DB K X P d) (k : Nat) : DB K X P (drainD k d) := drainD_ind (fun _ q hf => q.lay hf) k d h
theorem DB.drainL (h : DB K X P d) (k : Nat) : DB K X P (drainL k d) := drainL_ind (fun _ q hf => q.lay hf) k d h
theorem DB.chunk (h : DB K X P d) {x : List Int} (hx : (X ++ x).length ≤ 16777216) (hby : ∀ v ∈ x, 0 ≤ v ∧ v < 256) : DB (K + 100 * x.length) (X ++ x) P (chunkD d x) := ((h.grow x hx hby).toks 261).drain _
theorem DB.write : ∀ (k : Nat) {K : Nat} {X : List Int} {d : DSt} (b : List Int), DB K X P d → b.length ≤ k → (X ++ b).length ≤ 16777216 → (∀ v ∈ b, 0 ≤ v ∧ v < 256) → DB (K + 100 * b.length) (X ++ b) P (writeD k d b)
  | 0, K, X, d, b, h, hk, _, _ => by
    have : b = [] := List.eq_nil_of_length_eq_zero (by omega)
    subst this
    rw [List.append_nil]; exact h
  | k + 1, K, X, d, b, h, hk, hl, hb => by
    unfold writeD
    split
    · rename_i h0
      rw [List.length_append] at hl
      have ih := DB.write k (b.drop (min b.length 16384)) (h.chunk (x := b.take (min b.length 16384)) (by rw [List.length_append, List.length_take]; omega) fun v hv => hb v (List.mem_of_mem_take hv)) (by rw [List.length_drop]; omega)
        (by rw [List.append_assoc, List.take_append_drop, List.length_append]; exact hl) fun v hv => hb v (List.mem_of_mem_drop hv)
      rw [List.append_assoc, List.take_append_drop, List.length_take, List.length_drop] at ih
      exact ih.more (by omega)
    · have : b = [] := List.eq_nil_of_length_eq_zero (by omega)
      subst this
      rw [List.append_nil]; exact h
theorem DB.rest (h : DB K X P d) : DB K X P (restD d) := (h.toks 0).drainL _
theorem DB.new (lev : Int) : DB 0 [] [] (newD lev) := ⟨⟨_, _, _, _, _, DOk.new lev⟩, Nat.le_refl _⟩
theorem drainD_here (d : DSt) : drainD d.toks.length d = if 0 < fullE d.toks then drainD (layD d (fullE d.toks) false).toks.length (layD d (fullE d.toks) false) else d := by
  have hmore : ∀ (k : Nat) (d : DSt), d.toks.length ≤ k → ∀ j, drainD (k + j) d = drainD k d := fun k => by
    induction k with
    | zero =>
      intro d hd j
      have h0 : fullE d.toks = 0 := by have := fullE_le d.toks; omega
      cases j with
      | zero => rfl
      | succ j => show (if 0 < fullE d.toks then _ else d) = d; rw [if_neg (by omega)]
    | succ k ih =>
      intro d hd j
      rw [show k + 1 + j = (k + j) + 1 by omega]
      show (if 0 < fullE d.toks then drainD (k + j) _ else d) = (if 0 < fullE d.toks then drainD k _ else d)
      split
      · exact ih _ (by show (d.toks.drop _).length ≤ k; rw [List.length_drop]; omega) j
      · rfl
  by_cases h0 : 0 < fullE d.toks
  · rw [if_pos h0]
    have hle := fullE_le d.toks
    obtain ⟨k, hk⟩ : ∃ k, d.toks.length = k + 1 := ⟨d.toks.length - 1, by omega⟩
    have hl : (layD d (fullE d.toks) false).toks.length = d.toks.length - fullE d.toks := List.length_drop
    rw [hk]
    show (if 0 < fullE d.toks then drainD k _ else d) = _
    rw [if_pos h0]
    have := hmore (layD d (fullE d.toks) false).toks.length (layD d (fullE d.toks) false) (Nat.le_refl _) (k - (layD d (fullE d.toks) false).toks.length)
    rw [Nat.add_sub_cancel' (by omega)] at this
    exact this
  · rw [if_neg h0]
    cases d.toks.length with
    | zero => rfl
    | succ k => show (if 0 < fullE d.toks then _ else d) = d; rw [if_neg h0]
theorem drainL_here (d : DSt) : drainL d.toks.length d = if 0 < fullE d.toks ∧ fullE d.toks < d.toks.length then drainL (layD d (fullE d.toks) false).toks.length (layD d (fullE d.toks) false) else d := by
  have hmore : ∀ (k : Nat) (d : DSt), d.toks.length ≤ k → ∀ j, drainL (k + j) d = drainL k d := fun k => by
    induction k with
    | zero =>
      intro d hd j
      have h0 : fullE d.toks = 0 := by have := fullE_le d.toks; omega
      cases j with
      | zero => rfl
      | succ j => show (if 0 < fullE d.toks ∧ _ then _ else d) = d; rw [if_neg (by omega)]
    | succ k ih =>
      intro d hd j
      rw [show k + 1 + j = (k + j) + 1 by omega]
      show (if 0 < fullE d.toks ∧ fullE d.toks < d.toks.length then drainL (k + j) _ else d) = (if 0 < fullE d.toks ∧ fullE d.toks < d.toks.length then drainL k _ else d)
      split
      · exact ih _ (by show (d.toks.drop _).length ≤ k; rw [List.length_drop]; omega) j
      · rfl
  by_cases h0 : 0 < fullE d.toks ∧ fullE d.toks < d.toks.length
  · rw [if_pos h0]
    have hle := fullE_le d.toks
    obtain ⟨k, hk⟩ : ∃ k, d.toks.length = k + 1 := ⟨d.toks.length - 1, by omega⟩
    have hl : (layD d (fullE d.toks) false).toks.length = d.toks.length - fullE d.toks := List.length_drop
    have e : drainL (k + 1) d = drainL k (layD d (fullE d.toks) false) := by
      show (if 0 < fullE d.toks ∧ fullE d.toks < d.toks.length then drainL k _ else d) = _
      rw [if_pos h0]
    rw [hk, e]
    have := hmore (layD d (fullE d.toks) false).toks.length (layD d (fullE d.toks) false) (Nat.le_refl _) (k - (layD d (fullE d.toks) false).toks.length)
    rw [Nat.add_sub_cancel' (by omega)] at this
    exact this
  · rw [if_neg h0]
    cases hn : d.toks.length with
    | zero => rfl
    | succ k => show (if 0 < fullE d.toks ∧ fullE d.toks < d.toks.length then _ else d) = d; rw [if_neg h0]
theorem writeD_here (d : DSt) (b : List Int) : writeD b.length d b = if 0 < b.length then writeD (b.drop (min b.length 16384)).length (chunkD d (b.take (min b.length 16384))) (b.drop (min b.length 16384)) else d := by
  have hmore : ∀ (k : Nat) (b : List Int) (d : DSt), b.length ≤ k → ∀ j, writeD (k + j) d b = writeD k d b := fun k => by
    induction k with
    | zero =>
      intro b d hd j
      cases j with
      | zero => rfl
      | succ j => show (if 0 < b.length then _ else d) = d; rw [if_neg (by omega)]
    | succ k ih =>
      intro b d hd j
      rw [show k + 1 + j = (k + j) + 1 by omega]
      show (if 0 < b.length then writeD (k + j) _ _ else d) = (if 0 < b.length then writeD k _ _ else d)
      split
      · exact ih _ _ (by rw [List.length_drop]; omega) j
      · rfl
  by_cases h0 : 0 < b.length
  · rw [if_pos h0]
    obtain ⟨k, hk⟩ : ∃ k, b.length = k + 1 := ⟨b.length - 1, by omega⟩
    have hl : (b.drop (min b.length 16384)).length = b.length - min b.length 16384 := List.length_drop
    have e : writeD (k + 1) d b = writeD k (chunkD d (b.take (min b.length 16384))) (b.drop (min b.length 16384)) := by
      show (if 0 < b.length then writeD k _ _ else d) = _
      rw [if_pos h0]
    rw [show writeD b.length d b = writeD (k + 1) d b by rw [hk], e]
    have := hmore (b.drop (min b.length 16384)).length (b.drop (min b.length 16384)) (chunkD d (b.take (min b.length 16384))) (Nat.le_refl _) (k - (b.drop (min b.length 16384)).length)
    rw [Nat.add_sub_cancel' (by omega)] at this
    exact this
  · rw [if_neg h0]
    cases hn : b.length with
    | zero => rfl
    | succ k => omega
end
section
variable {w w' w0 : World} {b0 g : Nat} {c c0 c' : Nat → Nat} {M M' : EM} {d d' : DSt} {done done' : Bool}
theorem DE.trans (h : DE b0 w0 c0 w c) (h2 : DE b0 w c w' c') : DE b0 w0 c0 w' c' :=
  ⟨h.1.trans h2.1, h.2.1.trans h2.2.1 (fun k hk => by
    rcases Nat.lt_or_ge k w0.heap.size with h1 | h1
    · exact .inl (by rw [← h.2.2 k h1]; exact hk)
    · exact .inr h1), fun k hk => (h2.2.2 k (Nat.lt_of_lt_of_le hk h.2.1.size)).trans (h.2.2 k hk)⟩
theorem EncS.then_ {M'' : EM} (h : DE b0 w0 c0 w c) (h2 : EncS w c w' b0 g M'' d' done') : EncS w0 c0 w' b0 g M'' d' done' := by
  obtain ⟨c2, h3, h4⟩ := h2
  exact ⟨c2, h3, h.trans h4⟩
end
end Go.Proofs.Ytlgkiookobedcaa
namespace Go.Proofs.Ytlgkiookobedcaa
open Go.RowKit
set_option linter.unusedVariables false
section
variable {w w' w0 : World} {b0 g : Nat} {c c0 : Nat → Nat} {M : EM} {d : DSt} {done : Bool}
theorem toksD_of {left : Nat} {l : List Tok} {st' : FSt} (hF : DFacts d) (hr : Run (effOf d.lev) left d.f l st') (he : st'.D.length - st'.at_ ≤ left) : toksD left d = { d with f := st', toks := d.toks ++ l } ∧ l.length ≤ 16777216 := by
  have h := tokF_run (e := effOf d.lev) (left := left) (d.f.D.length - d.f.at_) hr he hF.fok (Nat.le_refl _)
  unfold toksD
  rw [h]
  refine ⟨rfl, ?_⟩
  obtain ⟨h1, h2, h3, h4⟩ := run_ok hr hF.fok
  have h5 := h1.hi
  have h6 := hF.nD
  rw [← h2] at h6
  omega
theorem EncM.app {w5 w6 : World} {A6 : Option Addr} {m c6 : Nat} {l : List Tok} (h5 : EncM w5 b0 g c M d done) (ho : OwnT w6 b0 A6 (M.nt + m) c6 (d.toks ++ l)) (hg : w5.grownBy w6 (blkOf M.At)) (hat : blkOf A6 = blkOf M.At ∨ blkOf A6 = some w5.heap.size) :
    EncS w5 c (w6.setCell ⟨g, 4, none⟩ (.slice A6 (M.nt + m) c6)) b0 g { M with At := A6, nt := M.nt + m, ct := c6 } { d with toks := d.toks ++ l } done := by
  have hap : blkOf A6 ≠ some g := fun e => by
    rcases hat with e2 | e2
    · have h1 := h5.ct g (by rw [← e2, e]); have h2 := h5.cg; omega
    · rw [e] at e2; injection e2 with e2; have := h5.cell.lt; omega
  have hne : some g ≠ blkOf M.At := fun e => by have h1 := h5.ct g e.symm; have h2 := h5.cg; omega
  have hcc : Chg w5 (w6.setCell ⟨g, 4, none⟩ (.slice A6 (M.nt + m) c6)) (fun k => k = g ∨ blkOf M.At = some k) := ((Chg.refl w5 _).grown hg (fun k hk => .inl (.inr hk))).setCell (.inl (.inl rfl)) _
  have har : Ar (w6.setCell ⟨g, 4, none⟩ (.slice A6 (M.nt + m) c6)) g 6 (eF { M with At := A6, nt := M.nt + m, ct := c6 } d.lev done) := ((h5.cell.grown hg hne).set_ (i := 4) (by omega) _).congr (fun j hj => by
    obtain rfl | rfl | rfl | rfl | rfl | rfl : j = 0 ∨ j = 1 ∨ j = 2 ∨ j = 3 ∨ j = 4 ∨ j = 5 := by omega
    all_goals rfl)
  exact h5.refl.tokens hcc har ⟨ho.1, ho.2.far (p := ⟨g, 4, none⟩) (fun e => hap e) _⟩ (fun k hk => by
    rcases hat with e | e
    · exact .inl (e ▸ hk)
    · rw [e] at hk; injection hk with hk; exact .inr (by omega))
theorem EncS.full (h : EncS w0 c0 w b0 g M d done) (hF : DFacts d) : Calls Try.prog 26 #[.pointer (some ⟨g, 0, none⟩)] w fun e w' => e = .returned (.int .i64 ((fullE d.toks : Nat) : Int)) ∧ EncS w0 c0 w' b0 g M d done := by
  obtain ⟨c, h1, h2⟩ := h
  have hn : M.nt = d.toks.length := h1.tok.1
  exact (dfull_any w g M.At M.nt M.ct d.toks h1.cells.2.2.2.2.1 h1.tok.rd (by have := hF.nt; omega) hF.snd).mono fun e w' hp => ⟨hp.1, EncS.keeps ⟨c, h1, h2⟩ hp.2⟩
theorem EncS.lay (h : EncS w0 c0 w b0 g M d done) (hF : DFacts d) (hL : d.L.length ≤ 2000000000000) (count : Nat) (hc : count ≤ d.toks.length) (hn : lensT (d.toks.take count) ≤ 65535) (last : Bool) :
    Calls Try.prog 27 #[.pointer (some ⟨g, 0, none⟩), .int .i64 count, .bool last] w fun e w' => e = .returned (.tuple #[]) ∧ ∃ M', EncS w0 c0 w' b0 g M' (layD d count last) done := by
  obtain ⟨c, h1, h2⟩ := h
  exact (lay_any w b0 g c M d done h1 hF.snd hF.lit hF.by_ count hc hn (hF.first count) hL (by have := hF.nt; omega) (by have := hF.nr; omega) last).mono fun e w' hp => ⟨hp.1, by obtain ⟨M', hp⟩ := hp.2; exact ⟨M', EncS.then_ h2 hp⟩⟩
theorem EncS.cells (h : EncS w0 c0 w b0 g M d done) : w.cell? ⟨g, 0, none⟩ = some (.pointer (some ⟨M.gf, 0, none⟩)) ∧ w.cell? ⟨g, 1, none⟩ = some (.pointer (some ⟨M.gw, 0, none⟩)) ∧ w.cell? ⟨g, 2, none⟩ = some (.int .i64 d.lev) ∧ w.cell? ⟨g, 3, none⟩ = some (.slice M.Ar M.nr M.cr) ∧ w.cell? ⟨g, 4, none⟩ = some (.slice M.At M.nt M.ct) ∧ w.cell? ⟨g, 5, none⟩ = some (.bool done) := by
  obtain ⟨c, h1, h2⟩ := h
  exact h1.cells
theorem EncS.nt (h : EncS w0 c0 w b0 g M d done) : M.nt = d.toks.length := by
  obtain ⟨c, h1, h2⟩ := h
  exact h1.tok.1
end
def RestRel (w : World) (c : Nat → Nat) (b0 g : Nat) (done : Bool) (K : Nat) (X P : List Int) (D : DSt) (gk : Nat) (v : Value) (wx : World) : Prop := ∃ M' d', v = .int .i64 ((fullE d'.toks : Nat) : Int) ∧ EncS w c wx b0 g M' d' done ∧ DB K X P d' ∧ drainL d'.toks.length d' = D ∧ gk = d'.toks.length
set_option maxRecDepth 100000 in
set_option maxHeartbeats 4000000 in
theorem rest_any (w : World) (b0 g : Nat) (c : Nat → Nat) (M : EM) (d : DSt) (done : Bool) (h : EncM w b0 g c M d done) {K : Nat} {X P : List Int} (hB : DB K X P d) (hK : K ≤ 2000000000000) :
    Calls Try.prog 28 #[.pointer (some ⟨g, 0, none⟩)] w fun e w' => e = .returned (.tuple #[]) ∧ ∃ M', EncS w c w' b0 g M' (restD d) done := by
  obtain ⟨i0, hi, hz0, hz1, hz2⟩ := info_parts dtok_info
  have Hi := Lib.hid (⟨hi, hz0, hz1, hz2⟩ : _ ∧ _ ∧ _ ∧ _)
  obtain ⟨c0, c1, c2, c3, c4, c5⟩ := h.cells
  obtain ⟨nm, Dm, hf⟩ := h.fnd
  have HMT := Lib.hid (mtokens_any true (hf.keeps (Below.refl _ _).drew))
  have HH := Lib.hid (⟨h, hB, hK, hB.1.facts⟩ : _ ∧ _ ∧ _ ∧ _)
  clear hi hz0 hz1 hz2 hf h hB hK c1 c2 c3 c5
  go_enter Try.func28, Try.ntmps28
  go_wp2_with fail
  go_region_law
    (first
      | (go_simp; go_at_call 25; (refine HMT.out.mono ?_)
         rintro e w5 ⟨l, st', At, nt, ct, rfl, hrun, hle, hoT, hfn, hcg⟩
         have hcg' : Chg w w5 (FF M.A M.gm M.Ap M.gf) := ((Chg.refl w _).drew).trans hcg (fun k hk => .inl hk)
         have h5 : EncS w c w5 b0 g M { d with f := st' } done := HH.out.1.refl.finder hcg' hfn (fun k hk => .inl hk)
         have htd := Lib.hid (toksD_of HH.out.2.2.2 hrun hle)
         clear hrun hle hfn hcg hcg'
         obtain ⟨c5, h5, hd5⟩ := h5
         have e4 := h5.cells.2.2.2.2.1)
      | (have _g := hoT; (refine step_appT b0 i0 rfl (.tmp 7) (.tmp 12) rfl Hi.out.1 Hi.out.2.1 Hi.out.2.2.1 Hi.out.2.2.2 rfl h5.tok rfl hoT.rd (by have h1 := h5.tok.1; have h2 := HH.out.2.2.2.nt; have h3 := hoT.1; have h4 := htd.out.2; have h6 : M.nt = d.toks.length := h1; omega) h5.lo ?_)
         intro A6 c6 w6 ho6 hg6 hat6
         have har := h5.cell.grown hg6 (fun e => by have h1 := h5.ct g e.symm; have h2 := h5.cg; omega)
         have e46 := har.cell (i := 4) (by omega)
         have y46 := har.frozen' (i := 4) (by omega)))
  all_goals
    have h6 := EncS.then_ hd5 (h5.app ho6 hg6 hat6)
    have hTD := htd.out.1
    have hDB := HH.out.2.1.toks 0
    have hRD : drainL (toksD 0 d).toks.length (toksD 0 d) = restD d := rfl
    have hTD0 : toksD 0 d = { d with f := st', toks := d.toks ++ l } := hTD
    rw [hTD0] at hDB hRD
    have h7 : EncS w c (w6.setCell ⟨g, 4, none⟩ (.slice A6 (M.nt + nt) c6)) b0 g { M with At := A6, nt := M.nt + nt, ct := c6 } { d with f := st', toks := d.toks ++ l } done := h6
    clear h6 hTD hTD0 htd hoT h5 hd5 e4 ho6 hg6 hat6 har e46 y46
    obtain ⟨W, hW⟩ : ∃ W, w6.setCell ⟨g, 4, none⟩ (.slice A6 (M.nt + nt) c6) = W := ⟨_, rfl⟩
    obtain ⟨d2, hd2⟩ : ∃ d2, ({ d with f := st', toks := d.toks ++ l } : DSt) = d2 := ⟨_, rfl⟩
    rw [hW, hd2] at h7
    rw [hd2] at hDB hRD
    rw [hW]
    clear hW hd2
    have HFU := Lib.hid (h7.full hDB.1.facts)
    have HX := Lib.hid (⟨hDB, hRD⟩ : _ ∧ _)
    clear h7 hDB hRD
    go_wp2_with fail
    refine HFU.out.mono ?_
    rintro e w8 ⟨rfl, h8⟩
    have H8 := Lib.hid h8
    clear h8
    go_wp2_with fail
    go_loopg [2] d2.toks.length (RestRel w c b0 g done K X P (restD d))
    case atStart => exact ⟨_, _, rfl, H8.out, HX.out.1, HX.out.2, rfl⟩
    case round =>
      obtain ⟨M', d', rfl, h9, hB9, hD9, hg9⟩ := hrel
      have c49 := h9.cells.2.2.2.2.1
      rw [h9.nt] at c49
      have hF9 := hB9.1.facts
      obtain ⟨F, hF⟩ : ∃ F, fullE d'.toks = F := ⟨_, rfl⟩
      obtain ⟨N, hN⟩ : ∃ N, d'.toks.length = N := ⟨_, rfl⟩
      rw [hN] at c49
      have hNb : N ≤ 16777216 := by have := hF9.nt; omega
      have hFb := fullE_le d'.toks
      have hFI : (0 : Int) ≤ (F : Int) ∧ (F : Int) ≤ 16777216 ∧ (N : Int) ≤ 16777216 := by omega
      rw [drainL_here] at hD9
      by_cases hgo : 0 < F ∧ F < N
      · have hgI : (0 : Int) < (F : Int) ∧ (F : Int) < (N : Int) ∧ 0 < F ∧ F < N := by omega
        rw [hF, hN, if_pos hgo] at hD9
        have HLY := Lib.hid (h9.lay hF9 (by have := hB9.size; have := HH.out.2.2.1; omega) F (by omega) (by rw [← hF]; exact (hF9.full (by omega)).2) false)
        have hB10 := hB9.lay (by omega)
        rw [hF] at hB10 ⊢
        have hg10 : (layD d' F false).toks.length < gk := by rw [show (layD d' F false).toks.length = d'.toks.length - F from List.length_drop]; omega
        have HY := Lib.hid (⟨hB10, hD9, hg10⟩ : _ ∧ _ ∧ _)
        clear hgo hF hN hFb hD9 h9 hB9 hB10 hg10 hg9 hF9 HX H8 HFU
        go_wp2_with fail
        refine HLY.out.mono ?_
        rintro e w10 ⟨rfl, M10, h10⟩
        have HFV := Lib.hid (h10.full HY.out.1.1.facts)
        clear h10
        go_wp2_with fail
        refine HFV.out.mono ?_
        rintro e w11 ⟨rfl, h11⟩
        have H11 := Lib.hid h11
        clear h11
        go_wp2_with fail
        go_roundg (layD d' F false).toks.length
        case measure => exact HY.out.2.2
        case rel => exact ⟨_, _, rfl, H11.out, HY.out.1, HY.out.2.1, rfl⟩
      · rw [hF, hN, if_neg hgo] at hD9
        have hfin : ∃ M', EncS w c wr b0 g M' (restD d) done := ⟨M', by rw [← hD9]; exact h9⟩
        have HFIN := Lib.hid hfin
        rw [hF]
        by_cases h0 : 0 < F
        · have hgI : (0 : Int) < (F : Int) ∧ ¬ (F : Int) < (N : Int) ∧ 0 < F ∧ ¬ F < N := by omega
          clear hgo hF hN hFb hD9 h9 hB9 hg9 hF9 HX H8 HFU hfin
          go_wp2_with fail
          go_end0
          exact ⟨rfl, HFIN.out⟩
        · have hgI : ¬ (0 : Int) < (F : Int) ∧ ¬ 0 < F := by omega
          clear hgo hF hN hFb hD9 h9 hB9 hg9 hF9 HX H8 HFU hfin
          go_wp2_with fail
          go_end0
          exact ⟨rfl, HFIN.out⟩
end Go.Proofs.Ytlgkiookobedcaa
