/-
  The walk of gzip.ParseHeader.
-/
import Derived.Test.YtgdmhicfeipbjaaHdB
import Derived.Test.YtgdmhicfeipbjaaCrc
import Derived.Deep.DeepCutAuto
import Derived.BigFrame
import Derived.Laws.BitsAllLaws
import Derived.BigRegion
namespace Go.Proofs.Ytgdmhicfeipbjaa
open Go.RowKit
set_option linter.unusedVariables false

/-- a header in memory -/
structure HV where
  tx : Bool
  sm : Bool
  tm : Int
  fl : Int
  sy : Int
  ex : Value
  hE : Bool
  nm : ByteArray
  cm : ByteArray
  hN : Bool
  hC : Bool
def hf (h : HV) : Nat → Value
  | 0 => .bool h.tx
  | 1 => .bool h.sm
  | 2 => .int .u32 h.tm
  | 3 => .int .u8 h.fl
  | 4 => .int .u8 h.sy
  | 5 => h.ex
  | 6 => .bool h.hE
  | 7 => .string h.nm
  | 8 => .string h.cm
  | 9 => .bool h.hN
  | _ => .bool h.hC
/-- a header as one value -/
def hagg (h : HV) : Value := .agg #[.bool h.tx, .bool h.sm, .int .u32 h.tm, .int .u8 h.fl, .int .u8 h.sy, h.ex, .bool h.hE, .string h.nm, .string h.cm, .bool h.hN, .bool h.hC]
def hz : HV := ⟨false, false, 0, 0, 0, .slice none 0 0, false, ByteArray.empty, ByteArray.empty, false, false⟩
theorem Ar.new' {w : World} {g m : Nat} {f : Nat → Value} (hg : g = w.heap.size) (cs : Array Value) (t : TypeId) (hm : cs.size = m) (hf : ∀ i, i < m → cs[i]? = some (f i)) : Ar (w.alloc (.cells cs t)) g m f := by
  subst hg; exact Ar.new w cs t hm hf
theorem lt11 {i : Nat} (h : i < 11) : i = 0 ∨ i = 1 ∨ i = 2 ∨ i = 3 ∨ i = 4 ∨ i = 5 ∨ i = 6 ∨ i = 7 ∨ i = 8 ∨ i = 9 ∨ i = 10 := by omega
theorem Psr.far {w : World} {B g n c a : Nat} {A : Option Addr} {l : List Int} {e : Int} (h : Psr w B g A n c l a e) {p : Addr} (hp : B ≤ p.block) (hg : g ≠ p.block) (v : Value) : Psr (w.setCell p v) B g A n c l a e :=
  ⟨h.cell.far hg v, h.rd.keep fun q hq => World.cell?_setCell_other _ _ _ _ (fun e => by have h9 := congrArg Addr.block e; omega), h.lo, h.le, h.cap, h.small⟩
theorem chg_below {w w5 w6 : World} {R g : Nat} (h : Below R w w5) (hC : Chg w5 w6 (fun k => k = g)) (hg : R < g) (hw : R = w.heap.size) : Below R w w6 :=
  ⟨hC.os.trans h.os, hC.tape.trans h.tape, hC.output.trans h.output, Nat.le_trans h.size hC.size, fun k hk =>
    (hC.block k (by have := h.size; omega) (by omega)).trans (h.block k hk)⟩
theorem store11 {w0 w : World} {B g n c a R : Nat} {A : Option Addr} {l : List Int} {e : Int} {f : Nat → Value} (f' : Nat → Value) (hP : Psr w B g A n c l a e) (hR : Ar w R 11 f) (hb : Below R w0 w) (hBR : B ≤ R) (hg : R < g) (v0 v1 v2 v3 v4 v5 v6 v7 v8 v9 v10 : Value) (e0 : v0 = f' 0) (e1 : v1 = f' 1) (e2 : v2 = f' 2) (e3 : v3 = f' 3) (e4 : v4 = f' 4) (e5 : v5 = f' 5) (e6 : v6 = f' 6) (e7 : v7 = f' 7) (e8 : v8 = f' 8) (e9 : v9 = f' 9) (e10 : v10 = f' 10) :
    Psr (((((((((((w.setCell ⟨R, 0, none⟩ v0).setCell ⟨R, 1, none⟩ v1).setCell ⟨R, 2, none⟩ v2).setCell ⟨R, 3, none⟩ v3).setCell ⟨R, 4, none⟩ v4).setCell ⟨R, 5, none⟩ v5).setCell ⟨R, 6, none⟩ v6).setCell ⟨R, 7, none⟩ v7).setCell ⟨R, 8, none⟩ v8).setCell ⟨R, 9, none⟩ v9).setCell ⟨R, 10, none⟩ v10) B g A n c l a e ∧ Ar (((((((((((w.setCell ⟨R, 0, none⟩ v0).setCell ⟨R, 1, none⟩ v1).setCell ⟨R, 2, none⟩ v2).setCell ⟨R, 3, none⟩ v3).setCell ⟨R, 4, none⟩ v4).setCell ⟨R, 5, none⟩ v5).setCell ⟨R, 6, none⟩ v6).setCell ⟨R, 7, none⟩ v7).setCell ⟨R, 8, none⟩ v8).setCell ⟨R, 9, none⟩ v9).setCell ⟨R, 10, none⟩ v10) R 11 f' ∧ Below R w0 (((((((((((w.setCell ⟨R, 0, none⟩ v0).setCell ⟨R, 1, none⟩ v1).setCell ⟨R, 2, none⟩ v2).setCell ⟨R, 3, none⟩ v3).setCell ⟨R, 4, none⟩ v4).setCell ⟨R, 5, none⟩ v5).setCell ⟨R, 6, none⟩ v6).setCell ⟨R, 7, none⟩ v7).setCell ⟨R, 8, none⟩ v8).setCell ⟨R, 9, none⟩ v9).setCell ⟨R, 10, none⟩ v10) := by
  have hgR : g ≠ R := by omega
  have hRR : R ≤ R := Nat.le_refl R
  refine ⟨(((((((((((hP.far (p := ⟨R, 0, none⟩) hBR hgR v0).far (p := ⟨R, 1, none⟩) hBR hgR v1).far (p := ⟨R, 2, none⟩) hBR hgR v2).far (p := ⟨R, 3, none⟩) hBR hgR v3).far (p := ⟨R, 4, none⟩) hBR hgR v4).far (p := ⟨R, 5, none⟩) hBR hgR v5).far (p := ⟨R, 6, none⟩) hBR hgR v6).far (p := ⟨R, 7, none⟩) hBR hgR v7).far (p := ⟨R, 8, none⟩) hBR hgR v8).far (p := ⟨R, 9, none⟩) hBR hgR v9).far (p := ⟨R, 10, none⟩) hBR hgR v10), ?_, (((((((((((hb.setCell (p := ⟨R, 0, none⟩) hRR v0).setCell (p := ⟨R, 1, none⟩) hRR v1).setCell (p := ⟨R, 2, none⟩) hRR v2).setCell (p := ⟨R, 3, none⟩) hRR v3).setCell (p := ⟨R, 4, none⟩) hRR v4).setCell (p := ⟨R, 5, none⟩) hRR v5).setCell (p := ⟨R, 6, none⟩) hRR v6).setCell (p := ⟨R, 7, none⟩) hRR v7).setCell (p := ⟨R, 8, none⟩) hRR v8).setCell (p := ⟨R, 9, none⟩) hRR v9).setCell (p := ⟨R, 10, none⟩) hRR v10)⟩
  refine Ar.congr (((((((((((hR.set_ (i := 0) (by omega) v0).set_ (i := 1) (by omega) v1).set_ (i := 2) (by omega) v2).set_ (i := 3) (by omega) v3).set_ (i := 4) (by omega) v4).set_ (i := 5) (by omega) v5).set_ (i := 6) (by omega) v6).set_ (i := 7) (by omega) v7).set_ (i := 8) (by omega) v8).set_ (i := 9) (by omega) v9).set_ (i := 10) (by omega) v10) (fun i hi => ?_)
  rcases lt11 hi with rfl | rfl | rfl | rfl | rfl | rfl | rfl | rfl | rfl | rfl | rfl
  · exact e0
  · exact e1
  · exact e2
  · exact e3
  · exact e4
  · exact e5
  · exact e6
  · exact e7
  · exact e8
  · exact e9
  · exact e10
theorem below_drewN {B : Nat} {w w' : World} (h : Below B w w') (q : Nat) : Below B w (w'.drewN q) := ⟨h.os, h.tape, h.output, h.size, h.block⟩
set_option maxRecDepth 20000 in
theorem and_bit {F : Int} (h : 0 ≤ F ∧ F < 256) : (bits .and .u8 F 1 != 0) = bit F 1 ∧ (bits .and .u8 F 2 != 0) = bit F 2 ∧ (bits .and .u8 F 4 != 0) = bit F 4 ∧ (bits .and .u8 F 8 != 0) = bit F 8 ∧ (bits .and .u8 F 16 != 0) = bit F 16 := by
  obtain ⟨N, rfl⟩ := Int.eq_ofNat_of_zero_le h.1
  have hN : N < 256 := by omega
  have h1 : ∀ N : Nat, N < 256 → (N &&& 1 ≠ 0 ↔ N / 1 % 2 = 1) := by decide
  have h2 : ∀ N : Nat, N < 256 → (N &&& 2 ≠ 0 ↔ N / 2 % 2 = 1) := by decide
  have h4 : ∀ N : Nat, N < 256 → (N &&& 4 ≠ 0 ↔ N / 4 % 2 = 1) := by decide
  have h8 : ∀ N : Nat, N < 256 → (N &&& 8 ≠ 0 ↔ N / 8 % 2 = 1) := by decide
  have h16 : ∀ N : Nat, N < 256 → (N &&& 16 ≠ 0 ↔ N / 16 % 2 = 1) := by decide
  have key : ∀ k : Nat, k < 256 → (N &&& k ≠ 0 ↔ N / k % 2 = 1) → (bits .and .u8 (N : Int) (k : Int) != 0) = bit (N : Int) (k : Int) := by
    intro k hk h
    rw [u8_and_nat N k hN hk]
    unfold bit
    have h3 : ((N : Int) / (k : Int) % 2 = 1) ↔ N / k % 2 = 1 := by rw [← Int.natCast_ediv]; omega
    by_cases h0 : N &&& k = 0
    · have h5 : ¬ N / k % 2 = 1 := fun h6 => (h.2 h6) h0
      rw [h0, decide_eq_false (fun h6 => h5 (h3.1 h6))]; rfl
    · rw [decide_eq_true (h3.2 (h.1 h0))]; simp only [bne_iff_ne]; omega
  exact ⟨key 1 (by omega) (h1 N hN), key 2 (by omega) (h2 N hN), key 4 (by omega) (h4 N hN), key 8 (by omega) (h8 N hN), key 16 (by omega) (h16 N hN)⟩
/-- the header behind the flags -/
def h1V (f : Int) : HV := ⟨bit f 1, bit f 2, 0, 0, 0, .slice none 0 0, bit f 4, ByteArray.empty, ByteArray.empty, bit f 8, bit f 16⟩
theorem Ar.hset {w : World} {R : Nat} {h h' : HV} (ha : Ar w R 11 (hf h)) {i : Nat} (hi : i < 11) (v : Value) (he : ∀ j, j < 11 → upd (hf h) i v j = hf h' j) : Ar (w.setCell ⟨R, i, none⟩ v) R 11 (hf h') := (ha.set_ hi v).congr he

/-- the header's checksum -/
def crcV (l : List Int) : Int := cmpI (crTo (cmpI 0) (l.take (b11 l)) (b11 l)) % 65536
def smC (l : List Int) : Prop := bit (fB l) 2 = true ∧ q11 l = 0
instance (l : List Int) : Decidable (smC l) := by unfold smC; infer_instance
def b12 (l : List Int) : Nat := if smC l then tkA l (b11 l) (q11 l) 2 else b11 l
def q12 (l : List Int) : Int := if smC l then (if tkF l (b11 l) (q11 l) 2 = 0 ∧ leI (tkL l (b11 l) (q11 l) 2) ≠ crcV l then 4 else tkF l (b11 l) (q11 l) 2) else q11 l
theorem and16 {x : Int} (h : 0 ≤ x ∧ x < 4294967296) : bits .and .u32 x 65535 = x % 65536 := by
  obtain ⟨N, rfl⟩ := Int.eq_ofNat_of_zero_le h.1
  have e := u32_and_nat N 65535 (by omega) (by omega)
  rw [show ((65535 : Nat) : Int) = 65535 from rfl] at e
  rw [e, show (65535 : Nat) = 2 ^ 16 - 1 from rfl, Nat.and_two_pow_sub_one_eq_mod]
  rfl
/-- ParseHeader's memory between two steps -/
structure PS (w0 w : World) (B g R : Nat) (A : Option Addr) (n c : Nat) (l : List Int) (a : Nat) (e : Int) (h : HV) (X : Option Addr) (m cc : Nat) (xl : List Int) : Prop where
  P : Psr w B g A n c l a e
  H : Ar w R 11 (hf h)
  b : Below R w0 w
  lt : R < g
  eq : R = w0.heap.size
  BR : B ≤ R
  own : OwnI .u8 w (g + 1) 5 X m cc xl
section
variable {w0 w w' : World} {B g R n c a a' m cc : Nat} {A X : Option Addr} {l xl : List Int} {e e' : Int} {h h' : HV}
theorem PS.step (s : PS w0 w B g R A n c l a e h X m cc xl) (hP : Psr w' B g A n c l a' e') (hC : Chg w w' (fun k => k = g)) : PS w0 w' B g R A n c l a' e' h X m cc xl :=
  ⟨hP, hC.ar s.H (fun h => by have := s.lt; omega), chg_below s.b hC s.lt s.eq, s.lt, s.eq, s.BR, hC.ownI s.own fun k hk h => by have := (s.own.2.lt hk).1; omega⟩
theorem PS.drewN (s : PS w0 w B g R A n c l a e h X m cc xl) (q : Nat) : PS w0 (w.drewN q) B g R A n c l a e h X m cc xl := ⟨s.P.drewN q, s.H.drewN q, below_drewN s.b q, s.lt, s.eq, s.BR, s.own.drewN q⟩
theorem PS.drew (s : PS w0 w B g R A n c l a e h X m cc xl) : PS w0 w.drew B g R A n c l a e h X m cc xl := s.drewN 1
theorem PS.set_ (s : PS w0 w B g R A n c l a e h X m cc xl) {i : Nat} (hi : i < 11) (v : Value) (he : ∀ j, j < 11 → upd (hf h) i v j = hf h' j) : PS w0 (w.setCell ⟨R, i, none⟩ v) B g R A n c l a e h' X m cc xl :=
  ⟨s.P.far (p := ⟨R, i, none⟩) s.BR (by have := s.lt; simp; omega) v, s.H.hset hi v he, s.b.setCell (p := ⟨R, i, none⟩) (Nat.le_refl R) v, s.lt, s.eq, s.BR, s.own.far (p := ⟨R, i, none⟩) (fun h => by have h2 : g + 1 ≤ R := (s.own.2.lt h).1; have := s.lt; omega) v⟩
theorem PS.lit (s : PS w0 w B g R A n c l a e h X m cc xl) {Z : Nat} (hZ : Z = w.heap.size) : PS w0 (w.alloc (.cells #[] 5)) B g R A n c l a e h (some ⟨Z, 0, none⟩) 0 0 [] :=
  ⟨⟨s.P.cell.alloc _, s.P.rd.alloc (by have := s.P.cell.lt; have := s.P.lo; omega) _, s.P.lo, s.P.le, s.P.cap, s.P.small⟩, s.H.alloc _, s.b.alloc (by have := s.b.size; have := s.eq; omega) _, s.lt, s.eq, s.BR, OwnI.lit hZ [] _ (by have := s.P.cell.lt; omega) (Nat.zero_le _)⟩
theorem PS.grown {X' : Option Addr} {m' cc' : Nat} {xl' : List Int} (s : PS w0 w B g R A n c l a e h X m cc xl) (hg : w.grownBy w' (blkOf X)) (ho : OwnI .u8 w' (g + 1) 5 X' m' cc' xl') : PS w0 w' B g R A n c l a e h X' m' cc' xl' := by
  have hC : Chg w w' (fun k => blkOf X = some k) := (Chg.refl w _).grown hg (fun k hk => .inl hk)
  have hlo : ∀ k, blkOf X = some k → g + 1 ≤ k := fun k hk => (s.own.2.lt hk).1
  have hBw : B ≤ w.heap.size := by have := s.P.cell.lt; have := s.P.lo; omega
  refine ⟨⟨hC.ar s.P.cell fun h => by have := hlo _ h; omega, hC.rdI s.P.rd hBw fun hn ad had h => ?_, s.P.lo, s.P.le, s.P.cap, s.P.small⟩, hC.ar s.H fun h => by have := hlo _ h; have := s.lt; omega, ?_, s.lt, s.eq, s.BR, ho⟩
  · obtain ⟨ad', e', hb', _⟩ := s.P.rd.2 hn
    rw [had] at e'
    cases e'
    have := hlo _ h
    have := s.P.lo
    omega
  · exact Below.trans s.b (hC.below (b0 := R) (fun k hk => by have := hlo _ hk; have := s.lt; omega) (by have := s.P.cell.lt; have := s.lt; omega))
theorem PS.below (s : PS w0 w B g R A n c l a e h X m cc xl) (hb : Below w.heap.size w w') : PS w0 w' B g R A n c l a e h X m cc xl := by
  have hC : Chg w w' (fun _ => False) := Chg.of_below hb
  have hl := s.P.cell.lt
  have hlo := s.P.lo
  exact ⟨⟨hC.ar s.P.cell id, hC.rdI s.P.rd (by omega) (fun _ _ _ h => h), s.P.lo, s.P.le, s.P.cap, s.P.small⟩, hC.ar s.H id, Below.trans s.b (hC.below (b0 := R) (fun _ h => h.elim) (by have := s.lt; omega)), s.lt, s.eq, s.BR, hC.ownI s.own fun _ _ h => h⟩
theorem PS.bound (s : PS w0 w B g R A n c l a e h X m cc xl) : g < w.heap.size := s.P.cell.lt
end

theorem PS.set11 {w0 w : World} {B g R n c a m cc : Nat} {A X : Option Addr} {l xl : List Int} {e : Int} {h : HV} (h' : HV) (s : PS w0 w B g R A n c l a e h X m cc xl) (v0 v1 v2 v3 v4 v5 v6 v7 v8 v9 v10 : Value) (e0 : v0 = hf h' 0) (e1 : v1 = hf h' 1) (e2 : v2 = hf h' 2) (e3 : v3 = hf h' 3) (e4 : v4 = hf h' 4) (e5 : v5 = hf h' 5) (e6 : v6 = hf h' 6) (e7 : v7 = hf h' 7) (e8 : v8 = hf h' 8) (e9 : v9 = hf h' 9) (e10 : v10 = hf h' 10) : PS w0 (((((((((((w.setCell ⟨R, 0, none⟩ v0).setCell ⟨R, 1, none⟩ v1).setCell ⟨R, 2, none⟩ v2).setCell ⟨R, 3, none⟩ v3).setCell ⟨R, 4, none⟩ v4).setCell ⟨R, 5, none⟩ v5).setCell ⟨R, 6, none⟩ v6).setCell ⟨R, 7, none⟩ v7).setCell ⟨R, 8, none⟩ v8).setCell ⟨R, 9, none⟩ v9).setCell ⟨R, 10, none⟩ v10) B g R A n c l a e h' X m cc xl := by
  have h3 := store11 (hf h') s.P s.H s.b s.BR s.lt v0 v1 v2 v3 v4 v5 v6 v7 v8 v9 v10 e0 e1 e2 e3 e4 e5 e6 e7 e8 e9 e10
  have hx : ∀ k, blkOf X = some k → k ≠ R := fun k hk h => by have h2 : g + 1 ≤ k := (s.own.2.lt hk).1; have := s.lt; omega
  exact ⟨h3.1, h3.2.1, h3.2.2, s.lt, s.eq, s.BR, (((((((((((s.own.far (p := ⟨R, 0, none⟩) (fun h => hx _ h rfl) v0).far (p := ⟨R, 1, none⟩) (fun h => hx _ h rfl) v1).far (p := ⟨R, 2, none⟩) (fun h => hx _ h rfl) v2).far (p := ⟨R, 3, none⟩) (fun h => hx _ h rfl) v3).far (p := ⟨R, 4, none⟩) (fun h => hx _ h rfl) v4).far (p := ⟨R, 5, none⟩) (fun h => hx _ h rfl) v5).far (p := ⟨R, 6, none⟩) (fun h => hx _ h rfl) v6).far (p := ⟨R, 7, none⟩) (fun h => hx _ h rfl) v7).far (p := ⟨R, 8, none⟩) (fun h => hx _ h rfl) v8).far (p := ⟨R, 9, none⟩) (fun h => hx _ h rfl) v9).far (p := ⟨R, 10, none⟩) (fun h => hx _ h rfl) v10)⟩

theorem results_hdr {w : World} {R : Nat} {h : HV} {tmps : Array Value} {x y : Value} (hR : Ar w R 11 (hf h)) (h2 : tmps[2]?.getD undef = .pointer (some ⟨R, 0, none⟩)) (h3 : tmps[3]?.getD undef = x) (h4 : tmps[4]?.getD undef = y) :
    (results Try.f9 tmps).run Try.prog w = .ok (.tuple #[hagg h, x, y]) w := by
  have r0 : w.cell? ⟨R, 0, none⟩ = some (.bool h.tx) := hR.cell (i := 0) (by omega)
  have r1 : w.cell? ⟨R, 1, none⟩ = some (.bool h.sm) := hR.cell (i := 1) (by omega)
  have r2 : w.cell? ⟨R, 2, none⟩ = some (.int .u32 h.tm) := hR.cell (i := 2) (by omega)
  have r3 : w.cell? ⟨R, 3, none⟩ = some (.int .u8 h.fl) := hR.cell (i := 3) (by omega)
  have r4 : w.cell? ⟨R, 4, none⟩ = some (.int .u8 h.sy) := hR.cell (i := 4) (by omega)
  have r5 : w.cell? ⟨R, 5, none⟩ = some (h.ex) := hR.cell (i := 5) (by omega)
  have r6 : w.cell? ⟨R, 6, none⟩ = some (.bool h.hE) := hR.cell (i := 6) (by omega)
  have r7 : w.cell? ⟨R, 7, none⟩ = some (.string h.nm) := hR.cell (i := 7) (by omega)
  have r8 : w.cell? ⟨R, 8, none⟩ = some (.string h.cm) := hR.cell (i := 8) (by omega)
  have r9 : w.cell? ⟨R, 9, none⟩ = some (.bool h.hN) := hR.cell (i := 9) (by omega)
  have r10 : w.cell? ⟨R, 10, none⟩ = some (.bool h.hC) := hR.cell (i := 10) (by omega)
  simp [results, Try.results9, go_sem, h2, h3, h4, r0, r1, r2, r3, r4, r5, r6, r7, r8, r9, r10, hagg]
/-- the header that ParseHeader gives -/
def outH (l : List Int) (ex : Value) : HV := { h1V (fB l) with tm := tmV l, fl := flV l, sy := syV l, ex := ex, nm := strOf (nmL l), cm := strOf (cmL l) }
def ParsePost (w : World) (l : List Int) (E : Ending) (w' : World) : Prop :=
  ∃ X m cc xl, m ≤ cc ∧ cc ≤ maxLen ∧ RdI .u8 w' w'.heap.size X m xl ∧ Below w.heap.size w w' ∧
    ((q12 l = 0 ∧ xl = exL l ∧ E = .returned (.tuple #[hagg (outH l (.slice X m cc)), .int .i64 (b12 l), .int .i64 0])) ∨ (q12 l ≠ 0 ∧ E = .returned (.tuple #[hagg hz, .int .i64 0, .int .i64 (q12 l)])))
set_option maxRecDepth 100000 in
set_option maxHeartbeats 4000000 in
theorem parse_any (w : World) (B n c : Nat) (A : Option Addr) (l : List Int) (hr : RdI .u8 w B A n l) (hB : B ≤ w.heap.size) (hn : n ≤ 1000000) (hc : n ≤ c) (hb : ∀ x ∈ l, 0 ≤ x ∧ x < 256) :
    Calls Try.prog 9 #[.slice A n c] w (ParsePost w l) := by
  go_enter Try.func9, Try.ntmps9
  go_wp2_with fail
  have hP0 : Psr ((w.alloc (Obj.cells #[Value.bool false, Value.bool false, Value.int IntKind.u32 0, Value.int IntKind.u8 0, Value.int IntKind.u8 0, Value.slice none 0 0, Value.bool false, Value.string { data := #[] }, Value.string { data := #[] }, Value.bool false, Value.bool false] 25)).alloc (Obj.cells #[Value.slice A n c, Value.int IntKind.i64 0, Value.int IntKind.i64 0] 43)) B (w.heap.size + 1) A n c l 0 0 :=
    ⟨Ar.new' (by simp) _ _ rfl (fun i hi => by
      obtain rfl | rfl | rfl : i = 0 ∨ i = 1 ∨ i = 2 := by omega
      all_goals rfl), (hr.alloc hB _).alloc (by simp; omega) _, by omega, by omega, hc, hn⟩
  have hR0 : Ar ((w.alloc (Obj.cells #[Value.bool false, Value.bool false, Value.int IntKind.u32 0, Value.int IntKind.u8 0, Value.int IntKind.u8 0, Value.slice none 0 0, Value.bool false, Value.string { data := #[] }, Value.string { data := #[] }, Value.bool false, Value.bool false] 25)).alloc (Obj.cells #[Value.slice A n c, Value.int IntKind.i64 0, Value.int IntKind.i64 0] 43)) w.heap.size 11 (hf hz) :=
    (Ar.new' rfl _ _ rfl (fun i hi => by
      rcases lt11 hi with rfl | rfl | rfl | rfl | rfl | rfl | rfl | rfl | rfl | rfl | rfl
      all_goals rfl)).alloc _
  have hb0 : Below w.heap.size w ((w.alloc (Obj.cells #[Value.bool false, Value.bool false, Value.int IntKind.u32 0, Value.int IntKind.u8 0, Value.int IntKind.u8 0, Value.slice none 0 0, Value.bool false, Value.string { data := #[] }, Value.string { data := #[] }, Value.bool false, Value.bool false] 25)).alloc (Obj.cells #[Value.slice A n c, Value.int IntKind.i64 0, Value.int IntKind.i64 0] 43)) :=
    ((Below.refl _ _).alloc (Nat.le_refl _) _).alloc (by simp) _
  revert hP0 hR0 hb0
  generalize ((w.alloc (Obj.cells #[Value.bool false, Value.bool false, Value.int IntKind.u32 0, Value.int IntKind.u8 0, Value.int IntKind.u8 0, Value.slice none 0 0, Value.bool false, Value.string { data := #[] }, Value.string { data := #[] }, Value.bool false, Value.bool false] 25)).alloc (Obj.cells #[Value.slice A n c, Value.int IntKind.i64 0, Value.int IntKind.i64 0] 43)) = w1
  intro hP0 hR0 hb0
  obtain ⟨g, hg⟩ : ∃ g, g = w.heap.size + 1 := ⟨_, rfl⟩
  rw [← hg] at hP0 ⊢
  have HG : Hid (w.heap.size < g) := by show _ < _; omega
  obtain ⟨R, hRR⟩ : ∃ R, R = w.heap.size := ⟨_, rfl⟩
  have HB := hB
  rw [← hRR] at hR0 hb0 HG HB ⊢
  clear hg
  have HRR := Lib.hid hRR
  clear hRR
  have hC0 : Chg w1 w1 (fun k => k = g) := Chg.refl _ _
  refine (want_any _ B g n c _ A l _ hP0 31).mono ?_
  rintro E w2 ⟨rfl, hP, hC⟩
  replace hP : Psr w2 B g A n c l (b1 l) (q1 l) := hP
  go_wp2_with fail
  refine (want_any _ B g n c _ A l _ hP 139).mono ?_
  clear hP
  rintro E w3 ⟨rfl, hP, hC'⟩
  replace hP : Psr w3 B g A n c l (b2 l) (q2 l) := hP
  replace hC := hC.trans hC' (fun k h => .inl h)
  clear hC' w2
  go_wp2_with fail
  refine (want_any _ B g n c _ A l _ hP 8).mono ?_
  clear hP
  rintro E w4 ⟨rfl, hP, hC'⟩
  replace hP : Psr w4 B g A n c l (b3 l) (q3 l) := hP
  replace hC := hC.trans hC' (fun k h => .inl h)
  clear hC' w3
  go_wp2_with fail
  refine (one_any _ B g n c _ A l _ hP).mono ?_
  clear hP
  rintro E w5 ⟨rfl, hP, hC'⟩
  replace hC := hC.trans hC' (fun k h => .inl h)
  clear hC' w4
  have hq4 : Hid (q4 l = gtE (tkF l (b3 l) (q3 l) 1) (fB l)) := rfl
  have hF0 : 0 ≤ fB l ∧ fB l < 256 := onB_bd hb _ _
  replace hP : Psr w5 B g A n c l (b4 l) (tkF l (b3 l) (q3 l) 1) := hP
  rw [show onB l (b3 l) (q3 l) = fB l from rfl]
  obtain ⟨e4, he4⟩ : ∃ e4, tkF l (b3 l) (q3 l) 1 = e4 := ⟨_, rfl⟩
  obtain ⟨F, hF⟩ : ∃ F, fB l = F := ⟨_, rfl⟩
  rw [he4] at hP hq4
  rw [hF] at hF0 hq4 ⊢
  have HF := Lib.hid hF
  clear he4 hF
  have hR := hC.ar hR0 (fun h => by have := HG.out; omega)
  replace hb0 : Below R w w5 := ⟨hC.os.trans hb0.os, hC.tape.trans hb0.tape, hC.output.trans hb0.output, Nat.le_trans hb0.size hC.size, fun k hk => (hC.block k (by have := hb0.size; have := HRR.out; omega) (by have := HG.out; omega)).trans (hb0.block k hk)⟩
  clear hC hR0
  have c2 := hP.cell.cell (i := 2) (by omega)
  have z2 := hP.cell.frozen' (i := 2) (by omega)
  unfold pf at c2
  go_upto_region 6 with fail
  go_cut [28] (fun s wx => s = .bool (decide (e4 = 0 ∧ 31 < F)) ∧ wx = w5)
  case first =>
    by_cases he : e4 = 0
    · subst he
      by_cases hf : 31 < F
      · have hd : decide ((0 : Int) = 0 ∧ 31 < F) = true := decide_eq_true ⟨rfl, hf⟩
        go_wp2
        go_meet
        exact ⟨congrArg Value.bool hd.symm, rfl⟩
      · have hd : decide ((0 : Int) = 0 ∧ 31 < F) = false := decide_eq_false (fun h => hf h.2)
        go_wp2
        go_meet
        exact ⟨congrArg Value.bool hd.symm, rfl⟩
    · have hd : decide (e4 = 0 ∧ 31 < F) = false := decide_eq_false (fun h => he h.1)
      go_wp2
      go_meet
      exact ⟨congrArg Value.bool hd.symm, rfl⟩
  case rest =>
    obtain ⟨rfl, rfl⟩ := hcut
    go_upto_if 28 with fail
    go_cut [] (fun wx => Psr wx B g A n c l (b4 l) (q4 l) ∧ Ar wx R 11 (hf hz) ∧ Below R w wx)
    case first =>
      by_cases he : e4 = 0 ∧ 31 < F
      · have hd : decide (e4 = 0 ∧ 31 < F) = true := decide_eq_true he
        have hq : Hid (q4 l = 2) := by show _ = _; rw [hq4.out]; unfold gtE; rw [if_pos he]
        rw [hd]
        go_wp2
        go_meet
        exact ⟨by rw [hq.out]; exact hP.fault 2, hR.far (p := ⟨g, 2, none⟩) (by have := HG.out; simp; omega) _, hb0.setCell (p := ⟨g, 2, none⟩) (by have := HG.out; simp; omega) _⟩
      · have hd : decide (e4 = 0 ∧ 31 < F) = false := decide_eq_false he
        have hq : Hid (q4 l = e4) := by show _ = _; rw [hq4.out]; unfold gtE; rw [if_neg he]
        rw [hd]
        go_wp2
        go_meet
        exact ⟨by rw [hq.out]; exact hP, hR, hb0⟩
    case rest =>
    clear hP hR hb0 c2 z2
    obtain ⟨hP, hR, hb0⟩ := hcut
    have hbt := Lib.hid (and_bit hF0)
    go_upto_region 8 with fail
    go_cut [] (fun wx => Psr wx B g A n c l (b4 l) (q4 l) ∧ Ar wx R 11 (hf (h1V F)) ∧ Below R w wx)
    case first =>
      have r0 := hR.cell (i := 0) (by omega)
      have f0 := hR.frozen' (i := 0) (by omega)
      have r1 := hR.cell (i := 1) (by omega)
      have f1 := hR.frozen' (i := 1) (by omega)
      have r2 := hR.cell (i := 2) (by omega)
      have f2 := hR.frozen' (i := 2) (by omega)
      have r3 := hR.cell (i := 3) (by omega)
      have f3 := hR.frozen' (i := 3) (by omega)
      have r4 := hR.cell (i := 4) (by omega)
      have f4 := hR.frozen' (i := 4) (by omega)
      have r5 := hR.cell (i := 5) (by omega)
      have f5 := hR.frozen' (i := 5) (by omega)
      have r6 := hR.cell (i := 6) (by omega)
      have f6 := hR.frozen' (i := 6) (by omega)
      have r7 := hR.cell (i := 7) (by omega)
      have f7 := hR.frozen' (i := 7) (by omega)
      have r8 := hR.cell (i := 8) (by omega)
      have f8 := hR.frozen' (i := 8) (by omega)
      have r9 := hR.cell (i := 9) (by omega)
      have f9 := hR.frozen' (i := 9) (by omega)
      have r10 := hR.cell (i := 10) (by omega)
      have f10 := hR.frozen' (i := 10) (by omega)
      unfold hf hz at r0 r1 r2 r3 r4 r5 r6 r7 r8 r9 r10
      go_wp2
      go_meet
      exact store11 (hf (h1V F)) hP hR hb0 HB HG.out _ _ _ _ _ _ _ _ _ _ _ (congrArg Value.bool hbt.out.1) (congrArg Value.bool hbt.out.2.1) rfl rfl rfl rfl (congrArg Value.bool hbt.out.2.2.1) rfl rfl (congrArg Value.bool hbt.out.2.2.2.1) (congrArg Value.bool hbt.out.2.2.2.2)
    case rest =>
    clear hP hR hb0
    obtain ⟨hP, hR, hb0⟩ := hcut
    go_wp2_with fail
    refine (take_any _ B g n c _ 4 A l _ hP (by omega)).mono ?_
    have hP' := hP
    clear hP
    rintro E w6 ⟨A1, m1, c1, rfl, hr1, hmc, hP, hC⟩
    have hR0' := hC.ar hR (fun h => by have := HG.out; omega)
    replace hP : Psr w6 B g A n c l (b5 l) (q5 l) := hP
    have S : PS w w6 B g R A n c l (b5 l) (q5 l) (h1V F) none 0 0 [] := PS.step ⟨hP', hR, hb0, HG.out, HRR.out, HB, OwnI.nil_⟩ hP hC
    clear hC hP hP' hR hb0
    go_wp2_with fail
    refine (number_any _ B m1 c1 A1 _ hr1 (by rw [hr1.1]; exact tkL_le _ _ _ _) (tkL_bd hb _ _ _)).mono ?_
    rintro E w7 ⟨rfl, qq, rfl⟩
    rw [show leI (tkL l (b4 l) (q4 l) 4) = tmV l from rfl]
    replace S := (S.drewN qq).set_ (i := 2) (h' := { h1V F with tm := tmV l }) (by omega) (.int .u32 (tmV l)) (fun j hj => by rcases lt11 hj with rfl | rfl | rfl | rfl | rfl | rfl | rfl | rfl | rfl | rfl | rfl <;> rfl)
    have r2 := (hR0'.drewN qq).cell (i := 2) (by omega)
    have f2 := (hR0'.drewN qq).frozen' (i := 2) (by omega)
    unfold hf at r2
    clear hR0'
    go_wp2_with fail
    refine (one_any _ B g n c _ A l _ S.P).mono ?_
    rintro E w8 ⟨rfl, hP, hC⟩
    rw [show onB l (b5 l) (q5 l) = flV l from rfl]
    replace hP : Psr w8 B g A n c l (b6 l) (q6 l) := hP
    replace S := S.step hP hC
    clear hP hC r2 f2
    go_wp2_with fail
    refine (one_any _ B g n c _ A l _ S.P).mono ?_
    rintro E w9 ⟨rfl, hP, hC⟩
    rw [show onB l (b6 l) (q6 l) = syV l from rfl]
    replace hP : Psr w9 B g A n c l (b7 l) (q7 l) := hP
    replace S := S.step hP hC
    clear hP hC
    have r3 := S.H.cell (i := 3) (by omega)
    have f3 := S.H.frozen' (i := 3) (by omega)
    have r4 := S.H.cell (i := 4) (by omega)
    have f4 := S.H.frozen' (i := 4) (by omega)
    have r6 := S.H.cell (i := 6) (by omega)
    unfold hf at r3 r4 r6
    dsimp only [h1V] at r3 r4 r6
    replace S := (S.set_ (i := 3) (h' := { h1V F with tm := tmV l, fl := flV l }) (by omega) (.int .u8 (flV l)) (fun j hj => by rcases lt11 hj with rfl | rfl | rfl | rfl | rfl | rfl | rfl | rfl | rfl | rfl | rfl <;> rfl)).set_ (i := 4) (h' := { h1V F with tm := tmV l, fl := flV l, sy := syV l }) (by omega) (.int .u8 (syV l)) (fun j hj => by rcases lt11 hj with rfl | rfl | rfl | rfl | rfl | rfl | rfl | rfl | rfl | rfl | rfl <;> rfl)
    go_upto_if 59 with fail
    revert S
    generalize ((w9.setCell ⟨R, 3, none⟩ (.int .u8 (flV l))).setCell ⟨R, 4, none⟩ (.int .u8 (syV l))) = W
    intro S
    clear r3 f3 r4 f4 r6
    obtain ⟨h2, hh2⟩ : ∃ h2 : HV, h2 = { h1V F with tm := tmV l, fl := flV l, sy := syV l } := ⟨_, rfl⟩
    have hh3 : ∀ v, { h1V F with tm := tmV l, fl := flV l, sy := syV l, ex := v } = { h2 with ex := v } := fun v => by rw [hh2]
    rw [← hh2] at S
    have HE : h2.hE = bit F 4 ∧ h2.hN = bit F 8 ∧ h2.hC = bit F 16 ∧ h2.sm = bit F 2 := by rw [hh2]; exact ⟨rfl, rfl, rfl, rfl⟩
    have HH2 := Lib.hid hh2
    clear hh2 hh3
    go_cut [] (fun wx => ∃ X m cc, PS w wx B g R A n c l (b9 l) (q9 l) { h2 with ex := .slice X m cc } X m cc (exL l))
    case first =>
      cases hb4 : bit F 4 with
      | false =>
        have HQ : Hid (b9 l = b7 l ∧ q9 l = q7 l ∧ exL l = []) := by
          refine ⟨?_, ?_, ?_⟩
          · unfold b9; rw [HF.out, hb4]; rfl
          · unfold q9; rw [HF.out, hb4]; rfl
          · unfold exL; rw [HF.out, hb4]; rfl
        go_wp2
        go_meet
        refine ⟨none, 0, 0, ?_⟩
        rw [HQ.out.1, HQ.out.2.1, HQ.out.2.2]
        exact (by have h9 : { h2 with ex := .slice none 0 0 } = h2 := by rw [HH2.out]; rfl
                  rw [h9]; exact S)
      | true =>
        have HQ : Hid (b9 l = tkA l (b8 l) (q8 l) (xnV l).toNat ∧ q9 l = tkF l (b8 l) (q8 l) (xnV l).toNat ∧ exL l = tkL l (b8 l) (q8 l) (xnV l).toNat) := by
          refine ⟨?_, ?_, ?_⟩
          · unfold b9; rw [HF.out, hb4]; rfl
          · unfold q9; rw [HF.out, hb4]; rfl
          · unfold exL; rw [HF.out, hb4]; rfl
        have hxb : 0 ≤ xnV l ∧ xnV l < 65536 := by
          have h1 := leI_bd (tkL_bd hb (b7 l) (q7 l) 2)
          have h2 := tkL_le l (b7 l) (q7 l) 2
          refine ⟨h1.1, Int.lt_of_lt_of_le h1.2 ?_⟩
          obtain h | h | h : (tkL l (b7 l) (q7 l) 2).length = 0 ∨ (tkL l (b7 l) (q7 l) 2).length = 1 ∨ (tkL l (b7 l) (q7 l) 2).length = 2 := by omega
          all_goals rw [h]; decide
        obtain ⟨K, hK⟩ : ∃ K : Nat, xnV l = K := ⟨(xnV l).toNat, by omega⟩
        have hKb : K < 65536 := by omega
        rw [show (xnV l).toNat = K by omega] at HQ
        have HK := Lib.hid hK
        clear hK hxb
        go_wp2_with fail
        obtain ⟨Z, hZ⟩ : ∃ Z, Z = W.heap.size := ⟨_, rfl⟩
        have S2 := S.lit hZ
        rw [← hZ]
        clear hZ
        refine (take_any _ B g n c _ 2 A l _ S2.P (by omega)).mono ?_
        rintro E w10 ⟨A2, m2, c2, rfl, hr2, hmc2, hP, hC⟩
        replace hP : Psr w10 B g A n c l (b8 l) (q8 l) := hP
        replace S2 := S2.step hP hC
        clear hP hC
        go_wp2_with fail
        refine (number_any _ B m2 c2 A2 _ hr2 (by have := hr2.1; have := tkL_le l (b7 l) (q7 l) 2; omega) (tkL_bd hb _ _ _)).mono ?_
        rintro E w11 ⟨rfl, qq2, rfl⟩
        rw [show leI (tkL l (b7 l) (q7 l) 2) = xnV l from rfl, HK.out]
        replace S2 := S2.drewN qq2
        go_wp2_with fail
        refine (take_any _ B g n c _ K A l _ S2.P (by omega)).mono ?_
        rintro E w12 ⟨A3, m3, c3, rfl, hr3, hmc3, hP, hC⟩
        replace S2 := S2.step hP hC
        clear hP hC
        have hm3 : m3 ≤ K := by rw [hr3.1]; exact tkL_le _ _ _ _
        obtain ⟨i0, hi, hz0, hz1, hz2⟩ := info_parts rbyte_info
        have Hi := Lib.hid hi
        have Hz0 := Lib.hid hz0
        have Hz1 := Lib.hid hz1
        have Hz2 := Lib.hid hz2
        clear hi hz0 hz1 hz2
        have hgW : g < w12.heap.size := S2.bound
        go_wp2_with (at_builtin; go_must (refine wpList_app .u8 (g + 1) 5 i0 1 rfl (.tmp 60) (.tmp 66) _ rfl Try.underlying23 Hi.out Hz0.out Hz1.out Hz2.out rfl S2.own rfl hr3 (by omega) (by omega) hgW ?_))
        intro A4 c4 w13 hown4 hg4 hat4
        have S3 := S2.grown hg4 hown4
        have r5 := S3.H.cell (i := 5) (by omega)
        have f5 := S3.H.frozen' (i := 5) (by omega)
        unfold hf at r5
        go_wp2
        go_meet
        refine ⟨A4, m3, c4, ?_⟩
        rw [HQ.out.1, HQ.out.2.1, HQ.out.2.2]
        exact S3.set_ (i := 5) (by omega) (.slice A4 m3 c4) (fun j hj => by rcases lt11 hj with rfl | rfl | rfl | rfl | rfl | rfl | rfl | rfl | rfl | rfl | rfl <;> rfl)
    case rest =>
    clear S W
    obtain ⟨X, m, cc, S⟩ := hcut
    have hsome : ∀ e : Int, (e = 0 → 0 < l.length) → e = 0 → ∃ ad, A = some ad := fun e h1 h2 => by
      have h3 := h1 h2
      rw [← hr.1] at h3
      obtain ⟨ad, h4, _⟩ := hr.2 h3
      exact ⟨ad, h4⟩
    have r9 := S.H.cell (i := 9) (by omega)
    unfold hf at r9
    dsimp only at r9
    rw [HE.2.1] at r9
    go_upto_if 70 with fail
    go_cut [] (fun wx => PS w wx B g R A n c l (b10 l) (q10 l) { h2 with ex := .slice X m cc, nm := strOf (nmL l) } X m cc (exL l))
    case first =>
      cases hb4 : bit F 8 with
      | false =>
        have HQ : Hid (b10 l = b9 l ∧ q10 l = q9 l ∧ nmL l = []) := by
          refine ⟨?_, ?_, ?_⟩
          · unfold b10; rw [HF.out, hb4]; rfl
          · unfold q10; rw [HF.out, hb4]; rfl
          · unfold nmL; rw [HF.out, hb4]; rfl
        go_wp2
        go_meet
        rw [HQ.out.1, HQ.out.2.1, HQ.out.2.2]
        exact (by have h9 : { h2 with ex := .slice X m cc, nm := strOf [] } = { h2 with ex := .slice X m cc } := by rw [HH2.out]; rfl
                  rw [h9]; exact S)
      | true =>
        have HQ : Hid (b10 l = txA l (b9 l) (q9 l) ∧ q10 l = txF l (b9 l) (q9 l) ∧ nmL l = txL l (b9 l) (q9 l)) := by
          refine ⟨?_, ?_, ?_⟩
          · unfold b10; rw [HF.out, hb4]; rfl
          · unfold q10; rw [HF.out, hb4]; rfl
          · unfold nmL; rw [HF.out, hb4]; rfl
        go_wp2_with fail
        refine (ptext_any _ B g n c _ A l _ S.P (hsome _ q9_len) hb).mono ?_
        rintro E w14 ⟨rfl, hP, hC⟩
        have S2 := S.step hP hC
        clear hP hC
        have r7 := S2.H.cell (i := 7) (by omega)
        have f7 := S2.H.frozen' (i := 7) (by omega)
        unfold hf at r7
        go_wp2
        go_meet
        rw [HQ.out.1, HQ.out.2.1, HQ.out.2.2]
        exact S2.set_ (i := 7) (by omega) _ (fun j hj => by rcases lt11 hj with rfl | rfl | rfl | rfl | rfl | rfl | rfl | rfl | rfl | rfl | rfl <;> rfl)
    case rest =>
    clear S r9
    have S := hcut
    clear hcut
    have r10 := S.H.cell (i := 10) (by omega)
    unfold hf at r10
    dsimp only at r10
    rw [HE.2.2.1] at r10
    go_upto_if 75 with fail
    go_cut [] (fun wx => PS w wx B g R A n c l (b11 l) (q11 l) { h2 with ex := .slice X m cc, nm := strOf (nmL l), cm := strOf (cmL l) } X m cc (exL l))
    case first =>
      cases hb4 : bit F 16 with
      | false =>
        have HQ : Hid (b11 l = b10 l ∧ q11 l = q10 l ∧ cmL l = []) := by
          refine ⟨?_, ?_, ?_⟩
          · unfold b11; rw [HF.out, hb4]; rfl
          · unfold q11; rw [HF.out, hb4]; rfl
          · unfold cmL; rw [HF.out, hb4]; rfl
        go_wp2
        go_meet
        rw [HQ.out.1, HQ.out.2.1, HQ.out.2.2]
        exact (by have h9 : { h2 with ex := .slice X m cc, nm := strOf (nmL l), cm := strOf [] } = { h2 with ex := .slice X m cc, nm := strOf (nmL l) } := by rw [HH2.out]; rfl
                  rw [h9]; exact S)
      | true =>
        have HQ : Hid (b11 l = txA l (b10 l) (q10 l) ∧ q11 l = txF l (b10 l) (q10 l) ∧ cmL l = txL l (b10 l) (q10 l)) := by
          refine ⟨?_, ?_, ?_⟩
          · unfold b11; rw [HF.out, hb4]; rfl
          · unfold q11; rw [HF.out, hb4]; rfl
          · unfold cmL; rw [HF.out, hb4]; rfl
        go_wp2_with fail
        refine (ptext_any _ B g n c _ A l _ S.P (hsome _ q10_len) hb).mono ?_
        rintro E w14 ⟨rfl, hP, hC⟩
        have S2 := S.step hP hC
        clear hP hC
        have r8 := S2.H.cell (i := 8) (by omega)
        have f8 := S2.H.frozen' (i := 8) (by omega)
        unfold hf at r8
        go_wp2
        go_meet
        rw [HQ.out.1, HQ.out.2.1, HQ.out.2.2]
        exact S2.set_ (i := 8) (by omega) _ (fun j hj => by rcases lt11 hj with rfl | rfl | rfl | rfl | rfl | rfl | rfl | rfl | rfl | rfl | rfl <;> rfl)
    case rest =>
    clear S r10
    have S := hcut
    clear hcut
    have r1 : wc.cell? ⟨R, 1, none⟩ = some (.bool h2.sm) := S.H.cell (i := 1) (by omega)
    have c2 : wc.cell? ⟨g, 2, none⟩ = some (.int .i64 (q11 l)) := S.P.cell.cell (i := 2) (by omega)
    rw [HE.2.2.2] at r1
    obtain ⟨e11, he11⟩ : ∃ e, q11 l = e := ⟨_, rfl⟩
    rw [he11] at c2
    have HE11 := Lib.hid he11
    clear he11
    have HSC : Hid ((bit F 2 = true ∧ e11 = 0) ↔ smC l) := by show _ ↔ _; unfold smC; rw [HF.out, HE11.out]
    go_upto_region 17 with fail
    go_cut [87] (fun s wx => s = .bool (decide (bit F 2 = true ∧ e11 = 0)) ∧ wx = wc)
    case first =>
      cases hb2 : bit F 2 with
      | false =>
        go_wp2
        go_meet
        exact ⟨congrArg Value.bool (by simp [hb2]), rfl⟩
      | true =>
        by_cases he : e11 = 0
        · rw [he] at c2
          go_wp2
          go_meet
          exact ⟨congrArg Value.bool (by simp [hb2, he]), rfl⟩
        · go_wp2
          go_meet
          exact ⟨congrArg Value.bool (by simp [hb2, he]), rfl⟩
    case rest =>
    obtain ⟨rfl, rfl⟩ := hcut
    go_upto_if 87 with fail
    go_cut [] (fun wx => PS w wx B g R A n c l (b12 l) (q12 l) { h2 with ex := .slice X m cc, nm := strOf (nmL l), cm := strOf (cmL l) } X m cc (exL l))
    case first =>
      by_cases hs : bit F 2 = true ∧ e11 = 0
      · have hd : decide (bit F 2 = true ∧ e11 = 0) = true := decide_eq_true hs
        rw [hd]
        have c1 : wc.cell? ⟨g, 1, none⟩ = some (.int .i64 (b11 l)) := S.P.cell.cell (i := 1) (by omega)
        have hle := S.P.le
        obtain ⟨i0, hi, hz0, hz1, hz2⟩ := info_parts rbyte_info
        have hsl := run_slice_to (P := Try.prog) 23 5 Try.underlying23 hi hz1 A n c (j := b11 l) (by omega)
        clear hi hz0 hz1 hz2
        have hrt := RdI.pre S.P.rd (j := b11 l) hle
        have hBw : B ≤ wc.heap.size := by have := S.P.cell.lt; have := S.P.lo; omega
        have hcr := cmpI_bd (crTo_bd (x := cmpI 0) (l := l.take (b11 l)) (cmpI_bd (by omega)) (ix_mem_bd (take_bd hb _)) (b11 l))
        have hb12 : Hid (b12 l = tkA l (b11 l) (q11 l) 2) := by show _ = _; unfold b12; rw [if_pos (HSC.out.1 hs)]
        have hq12 : Hid (q12 l = if tkF l (b11 l) (q11 l) 2 = 0 ∧ leI (tkL l (b11 l) (q11 l) 2) ≠ crcV l then 4 else tkF l (b11 l) (q11 l) 2) := by show _ = _; unfold q12; rw [if_pos (HSC.out.1 hs)]
        go_wp2_with fail
        refine (crc_any 0 A (b11 l) c B (l.take (b11 l)) _ hrt hBw (ix_mem_bd (take_bd hb _)) (by omega) (by omega)).mono ?_
        rintro E w15 ⟨rfl, hbw⟩
        have S2 := S.below hbw
        have hm := and16 hcr
        rw [show cmpI (crTo (cmpI 0) (l.take (b11 l)) (b11 l)) % 65536 = crcV l from rfl] at hm
        generalize cmpI (crTo (cmpI 0) (l.take (b11 l)) (b11 l)) = cv at hm ⊢
        clear hbw hcr hrt
        go_wp2_with fail
        refine (take_any _ B g n c _ 2 A l _ S2.P (by omega)).mono ?_
        rintro E w16 ⟨A5, m5, c5, rfl, hr5, hmc5, hP, hC⟩
        replace S2 := S2.step hP hC
        clear hP hC
        have k2 : w16.cell? ⟨g, 2, none⟩ = some (.int .i64 (tkF l (b11 l) (q11 l) 2)) := S2.P.cell.cell (i := 2) (by omega)
        have z2 := S2.P.cell.frozen' (i := 2) (by omega)
        have hn5 := number_any w16 B m5 c5 A5 _ hr5 (by have := hr5.1; have := tkL_le l (b11 l) (q11 l) 2; omega) (tkL_bd hb _ _ _)
        obtain ⟨e', he'⟩ : ∃ e', tkF l (b11 l) (q11 l) 2 = e' := ⟨_, rfl⟩
        obtain ⟨y, hy⟩ : ∃ y, leI (tkL l (b11 l) (q11 l) 2) = y := ⟨_, rfl⟩
        obtain ⟨v, hv⟩ : ∃ v, crcV l = v := ⟨_, rfl⟩
        rw [he'] at k2 hq12 S2
        rw [hy] at hn5 hq12
        rw [hv] at hm hq12 ⊢
        clear hm HE HSC r1 c2 c1 hsl hd
        clear he' hy hv
        by_cases h0 : e' = 0
        · subst h0
          by_cases hyv : y = v
          · have HQ : Hid (q12 l = 0) := by show _ = _; rw [hq12.out, if_neg (fun h => h.2 hyv)]
            subst hyv
            go_wp2_with fail
            refine hn5.mono ?_
            rintro E w17 ⟨rfl, qq3, rfl⟩
            have S3 := S2.drewN qq3
            go_wp2
            go_meet
            rw [hb12.out, HQ.out]
            exact S3
          · have HQ : Hid (q12 l = 4) := by show _ = _; rw [hq12.out, if_pos ⟨rfl, hyv⟩]
            go_wp2_with fail
            refine hn5.mono ?_
            rintro E w17 ⟨rfl, qq3, rfl⟩
            have S3 := S2.drewN qq3
            go_wp2
            go_meet
            rw [hb12.out, HQ.out]
            exact S3.step (S3.P.fault 4) ((Chg.refl (w16.drewN qq3) (fun k => k = g)).setCell (p := ⟨g, 2, none⟩) (.inl rfl) _)
        · have HQ : Hid (q12 l = e') := by show _ = _; rw [hq12.out, if_neg (fun h => h0 h.1)]
          go_wp2
          go_meet
          rw [hb12.out, HQ.out]
          exact S2
      · have hd : decide (bit F 2 = true ∧ e11 = 0) = false := decide_eq_false hs
        have HQ : Hid (b12 l = b11 l ∧ q12 l = q11 l) := by
          refine ⟨?_, ?_⟩
          · unfold b12; rw [if_neg (fun h => hs (HSC.out.2 h))]
          · unfold q12; rw [if_neg (fun h => hs (HSC.out.2 h))]
        rw [hd]
        go_wp2
        go_meet
        rw [HQ.out.1, HQ.out.2]
        exact S
    case rest =>
    clear S r1 c2
    have S := hcut
    clear hcut
    have k1 : wc.cell? ⟨g, 1, none⟩ = some (.int .i64 (b12 l)) := S.P.cell.cell (i := 1) (by omega)
    have k2 : wc.cell? ⟨g, 2, none⟩ = some (.int .i64 (q12 l)) := S.P.cell.cell (i := 2) (by omega)
    have HEH := Lib.hid HE
    clear HE
    have hgR : ¬ g = R := by have := HG.out; omega
    have hRg : ¬ R = g := by have := HG.out; omega
    by_cases h12 : q12 l = 0
    · rw [h12] at k2
      go_upto_region 24 with fail
      go_cut [3, 4] (fun x y wx => x = .int .i64 (b12 l) ∧ y = .int .i64 0 ∧ PS w wx B g R A n c l (b12 l) (q12 l) { h2 with ex := .slice X m cc, nm := strOf (nmL l), cm := strOf (cmL l) } X m cc (exL l))
      case first =>
        have r0 : wc.cell? ⟨R, 0, none⟩ = some (.bool h2.tx) := S.H.cell (i := 0) (by omega)
        have f0 := S.H.frozen' (i := 0) (by omega)
        have r1 : wc.cell? ⟨R, 1, none⟩ = some (.bool h2.sm) := S.H.cell (i := 1) (by omega)
        have f1 := S.H.frozen' (i := 1) (by omega)
        have r2 : wc.cell? ⟨R, 2, none⟩ = some (.int .u32 h2.tm) := S.H.cell (i := 2) (by omega)
        have f2 := S.H.frozen' (i := 2) (by omega)
        have r3 : wc.cell? ⟨R, 3, none⟩ = some (.int .u8 h2.fl) := S.H.cell (i := 3) (by omega)
        have f3 := S.H.frozen' (i := 3) (by omega)
        have r4 : wc.cell? ⟨R, 4, none⟩ = some (.int .u8 h2.sy) := S.H.cell (i := 4) (by omega)
        have f4 := S.H.frozen' (i := 4) (by omega)
        have r5 : wc.cell? ⟨R, 5, none⟩ = some (.slice X m cc) := S.H.cell (i := 5) (by omega)
        have f5 := S.H.frozen' (i := 5) (by omega)
        have r6 : wc.cell? ⟨R, 6, none⟩ = some (.bool h2.hE) := S.H.cell (i := 6) (by omega)
        have f6 := S.H.frozen' (i := 6) (by omega)
        have r7 : wc.cell? ⟨R, 7, none⟩ = some (.string (strOf (nmL l))) := S.H.cell (i := 7) (by omega)
        have f7 := S.H.frozen' (i := 7) (by omega)
        have r8 : wc.cell? ⟨R, 8, none⟩ = some (.string (strOf (cmL l))) := S.H.cell (i := 8) (by omega)
        have f8 := S.H.frozen' (i := 8) (by omega)
        have r9 : wc.cell? ⟨R, 9, none⟩ = some (.bool h2.hN) := S.H.cell (i := 9) (by omega)
        have f9 := S.H.frozen' (i := 9) (by omega)
        have r10 : wc.cell? ⟨R, 10, none⟩ = some (.bool h2.hC) := S.H.cell (i := 10) (by omega)
        have f10 := S.H.frozen' (i := 10) (by omega)
        go_region
        all_goals
          go_wp2
          go_meet
          exact ⟨rfl, rfl, (S.set11 { h2 with ex := .slice X m cc, nm := strOf (nmL l), cm := strOf (cmL l) } _ _ _ _ _ _ _ _ _ _ _ rfl rfl rfl rfl rfl rfl rfl rfl rfl rfl rfl).drew⟩
      case rest =>
      clear S k1 k2
      obtain ⟨rfl, rfl, S⟩ := hcut
      go_step
      apply wp_ret
      refine bodyPost_ret (results_hdr S.H rfl rfl rfl) rfl ?_
      have hm : m ≤ cc ∧ cc ≤ maxLen := by
        rcases S.own.2 with ⟨_, h1, h2⟩ | ⟨_, _, _, _, _, h1, h2, _⟩
        · omega
        · exact ⟨h1, h2⟩
      refine ⟨X, m, cc, exL l, hm.1, hm.2, S.own.rd, HRR.out ▸ S.b, .inl ⟨h12, rfl, ?_⟩⟩
      rw [HH2.out, ← HF.out]
      rfl
    · obtain ⟨e12, he12⟩ : ∃ e, q12 l = e := ⟨_, rfl⟩
      rw [he12] at k2 h12
      have HE12 := Lib.hid he12
      clear he12
      go_wp2_with fail
      have r0 : wc.cell? ⟨R, 0, none⟩ = some (.bool h2.tx) := S.H.cell (i := 0) (by omega)
      have f0 := S.H.frozen' (i := 0) (by omega)
      have r1 : wc.cell? ⟨R, 1, none⟩ = some (.bool h2.sm) := S.H.cell (i := 1) (by omega)
      have f1 := S.H.frozen' (i := 1) (by omega)
      have r2 : wc.cell? ⟨R, 2, none⟩ = some (.int .u32 h2.tm) := S.H.cell (i := 2) (by omega)
      have f2 := S.H.frozen' (i := 2) (by omega)
      have r3 : wc.cell? ⟨R, 3, none⟩ = some (.int .u8 h2.fl) := S.H.cell (i := 3) (by omega)
      have f3 := S.H.frozen' (i := 3) (by omega)
      have r4 : wc.cell? ⟨R, 4, none⟩ = some (.int .u8 h2.sy) := S.H.cell (i := 4) (by omega)
      have f4 := S.H.frozen' (i := 4) (by omega)
      have r5 : wc.cell? ⟨R, 5, none⟩ = some (.slice X m cc) := S.H.cell (i := 5) (by omega)
      have f5 := S.H.frozen' (i := 5) (by omega)
      have r6 : wc.cell? ⟨R, 6, none⟩ = some (.bool h2.hE) := S.H.cell (i := 6) (by omega)
      have f6 := S.H.frozen' (i := 6) (by omega)
      have r7 : wc.cell? ⟨R, 7, none⟩ = some (.string (strOf (nmL l))) := S.H.cell (i := 7) (by omega)
      have f7 := S.H.frozen' (i := 7) (by omega)
      have r8 : wc.cell? ⟨R, 8, none⟩ = some (.string (strOf (cmL l))) := S.H.cell (i := 8) (by omega)
      have f8 := S.H.frozen' (i := 8) (by omega)
      have r9 : wc.cell? ⟨R, 9, none⟩ = some (.bool h2.hN) := S.H.cell (i := 9) (by omega)
      have f9 := S.H.frozen' (i := 9) (by omega)
      have r10 : wc.cell? ⟨R, 10, none⟩ = some (.bool h2.hC) := S.H.cell (i := 10) (by omega)
      have f10 := S.H.frozen' (i := 10) (by omega)
      go_region
      all_goals
        have S2 := (S.set11 hz _ _ _ _ _ _ _ _ _ _ _ rfl rfl rfl rfl rfl rfl rfl rfl rfl rfl rfl).drew
        simp only [Exit.then]
        go_step
        apply wp_ret
        simp only [Exit.then]
        refine bodyPost_ret (results_hdr S2.H rfl rfl rfl) rfl ?_
        have hm : m ≤ cc ∧ cc ≤ maxLen := by
          rcases S2.own.2 with ⟨_, h1, h2⟩ | ⟨_, _, _, _, _, h1, h2, _⟩
          · omega
          · exact ⟨h1, h2⟩
        refine ⟨X, m, cc, exL l, hm.1, hm.2, S2.own.rd, HRR.out ▸ S2.b, .inr ⟨fun h => h12 (HE12.out ▸ h), ?_⟩⟩
        rw [HE12.out]
        rfl
end Go.Proofs.Ytgdmhicfeipbjaa
