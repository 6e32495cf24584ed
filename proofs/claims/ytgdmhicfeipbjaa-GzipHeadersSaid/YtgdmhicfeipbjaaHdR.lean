/-
  The walk of the reference's Header.
-/
import Derived.Test.YtgdmhicfeipbjaaHdQ
import Derived.Deep.RegionWith
namespace Go.Proofs.Ytgdmhicfeipbjaa
open Go.RowKit
set_option linter.unusedVariables false

theorem results_hdr2 {w : World} {R : Nat} {h : HV} {tmps : Array Value} {x y : Value} (hR : Ar w R 11 (hf h)) (h2 : tmps[2]?.getD undef = .pointer (some ⟨R, 0, none⟩)) (h3 : tmps[3]?.getD undef = x) (h4 : tmps[4]?.getD undef = y) :
    (results Try.f10 tmps).run Try.prog w = .ok (.tuple #[hagg h, x, y]) w := by
  have r0 : w.cell? ⟨R, 0, none⟩ = some (.bool h.tx) := hR.cell (i := 0) (by omega)
  have r1 : w.cell? ⟨R, 1, none⟩ = some (.bool h.sm) := hR.cell (i := 1) (by omega)
  have r2 : w.cell? ⟨R, 2, none⟩ = some (.int .u32 h.tm) := hR.cell (i := 2) (by omega)
  have r3 : w.cell? ⟨R, 3, none⟩ = some (.int .u8 h.fl) := hR.cell (i := 3) (by omega)
  have r4 : w.cell? ⟨R, 4, none⟩ = some (.int .u8 h.sy) := hR.cell (i := 4) (by omega)
  have r5 : w.cell? ⟨R, 5, none⟩ = some (h.ex) := hR.cell (i := 5) (by omega)
  have r6 : w.cell? ⟨R, 6, none⟩ = some (.bool h.hE) := hR.cell (i := 6) (by omega)
  have r7 : w.cell? ⟨R, 7, none⟩ = some (.string h.nm) := hR.cell (i := 7) (by omega)
  have r8 : w.cell? ⟨R, 8, none⟩ = some (.string h.cm) := hR.cell (i := 8) (by omega)
  have r9 : w.cell? ⟨R, 9, none⟩ = some (.bool h.hN) := hR.cell (i := 9) (by omega)
  have r10 : w.cell? ⟨R, 10, none⟩ = some (.bool h.hC) := hR.cell (i := 10) (by omega)
  simp [results, Try.results10, go_sem, h2, h3, h4, r0, r1, r2, r3, r4, r5, r6, r7, r8, r9, r10, hagg]

/-- Header's memory: the bytes, the result's cells, nothing else turned -/
structure RS (w0 w : World) (B R : Nat) (A : Option Addr) (n : Nat) (l : List Int) : Prop where
  H : Ar w R 11 (hf hz)
  rd : RdI .u8 w B A n l
  b : Below R w0 w
  eq : R = w0.heap.size
  BR : B ≤ R
section
variable {w0 w w' : World} {B R n : Nat} {A : Option Addr} {l : List Int}
theorem RS.drewN (s : RS w0 w B R A n l) (q : Nat) : RS w0 (w.drewN q) B R A n l := ⟨s.H.drewN q, s.rd.drewN q, below_drewN s.b q, s.eq, s.BR⟩
theorem RS.below (s : RS w0 w B R A n l) (hb : Below w.heap.size w w') : RS w0 w' B R A n l :=
  ⟨s.H.keeps hb, s.rd.keep (fun p hp => hb.cell (by have := s.H.lt; have := s.BR; omega)), Below.trans s.b (hb.mono (by have := s.H.lt; omega)), s.eq, s.BR⟩
theorem RS.far (s : RS w0 w B R A n l) {p : Addr} (hp : R < p.block) (v : Value) : RS w0 (w.setCell p v) B R A n l :=
  ⟨s.H.far (by omega) v, s.rd.keep (fun q hq => World.cell?_setCell_other _ _ _ _ (fun e => by have h9 := congrArg Addr.block e; have := s.BR; omega)), s.b.setCell (by omega) v, s.eq, s.BR⟩
theorem RS.grown (s : RS w0 w B R A n l) {row : Option Nat} (hg : w.grownBy w' row) (hr : ∀ k, row = some k → R < k) : RS w0 w' B R A n l := by
  have hl := s.H.lt
  have hC : Chg w w' (fun k => row = some k) := (Chg.refl w _).grown hg (fun k hk => .inl hk)
  have hbb : Below (R + 1) w w' := hC.below (fun k hk => by have := hr k hk; omega) (by omega)
  exact ⟨hC.ar s.H fun h => by have := hr _ h; omega, s.rd.keep fun p hp => hbb.cell (by have := s.BR; omega), Below.trans s.b (hbb.mono (by omega)), s.eq, s.BR⟩
theorem RS.err (s : RS w0 w B R A n l) : Ar (((((((((((w.setCell ⟨R, 0, none⟩ (.bool false)).setCell ⟨R, 1, none⟩ (.bool false)).setCell ⟨R, 2, none⟩ (.int .u32 0)).setCell ⟨R, 3, none⟩ (.int .u8 0)).setCell ⟨R, 4, none⟩ (.int .u8 0)).setCell ⟨R, 5, none⟩ (.slice none 0 0)).setCell ⟨R, 6, none⟩ (.bool false)).setCell ⟨R, 7, none⟩ (.string ByteArray.empty)).setCell ⟨R, 8, none⟩ (.string ByteArray.empty)).setCell ⟨R, 9, none⟩ (.bool false)).setCell ⟨R, 10, none⟩ (.bool false)) R 11 (hf hz) ∧ Below w0.heap.size w0 (((((((((((w.setCell ⟨R, 0, none⟩ (.bool false)).setCell ⟨R, 1, none⟩ (.bool false)).setCell ⟨R, 2, none⟩ (.int .u32 0)).setCell ⟨R, 3, none⟩ (.int .u8 0)).setCell ⟨R, 4, none⟩ (.int .u8 0)).setCell ⟨R, 5, none⟩ (.slice none 0 0)).setCell ⟨R, 6, none⟩ (.bool false)).setCell ⟨R, 7, none⟩ (.string ByteArray.empty)).setCell ⟨R, 8, none⟩ (.string ByteArray.empty)).setCell ⟨R, 9, none⟩ (.bool false)).setCell ⟨R, 10, none⟩ (.bool false)) := by
  refine ⟨?_, ?_⟩
  · refine Ar.congr (((((((((((s.H.set_ (i := 0) (by omega) (.bool false)).set_ (i := 1) (by omega) (.bool false)).set_ (i := 2) (by omega) (.int .u32 0)).set_ (i := 3) (by omega) (.int .u8 0)).set_ (i := 4) (by omega) (.int .u8 0)).set_ (i := 5) (by omega) (.slice none 0 0)).set_ (i := 6) (by omega) (.bool false)).set_ (i := 7) (by omega) (.string ByteArray.empty)).set_ (i := 8) (by omega) (.string ByteArray.empty)).set_ (i := 9) (by omega) (.bool false)).set_ (i := 10) (by omega) (.bool false)) (fun i hi => ?_)
    rcases lt11 hi with rfl | rfl | rfl | rfl | rfl | rfl | rfl | rfl | rfl | rfl | rfl <;> rfl
  · have h := s.eq
    have hR : R ≤ R := Nat.le_refl R
    rw [← h]
    exact (((((((((((s.b.setCell (p := ⟨R, 0, none⟩) hR (.bool false)).setCell (p := ⟨R, 1, none⟩) hR (.bool false)).setCell (p := ⟨R, 2, none⟩) hR (.int .u32 0)).setCell (p := ⟨R, 3, none⟩) hR (.int .u8 0)).setCell (p := ⟨R, 4, none⟩) hR (.int .u8 0)).setCell (p := ⟨R, 5, none⟩) hR (.slice none 0 0)).setCell (p := ⟨R, 6, none⟩) hR (.bool false)).setCell (p := ⟨R, 7, none⟩) hR (.string ByteArray.empty)).setCell (p := ⟨R, 8, none⟩) hR (.string ByteArray.empty)).setCell (p := ⟨R, 9, none⟩) hR (.bool false)).setCell (p := ⟨R, 10, none⟩) hR (.bool false))
end
/-- ..and the header under way at block K, its extra field in a row of the call's own -/
structure RT (w0 w : World) (B R : Nat) (A : Option Addr) (n : Nat) (l : List Int) (K : Nat) (h : HV) (X : Option Addr) (m cc : Nat) (xl : List Int) : Prop where
  S : RS w0 w B R A n l
  H : Ar w K 11 (hf h)
  lt : R < K
  own : OwnI .u8 w (K + 1) 5 X m cc xl
section
variable {w0 w w' : World} {B R n K m cc : Nat} {A X : Option Addr} {l xl : List Int} {h h' : HV}
theorem RT.drewN (s : RT w0 w B R A n l K h X m cc xl) (q : Nat) : RT w0 (w.drewN q) B R A n l K h X m cc xl := ⟨s.S.drewN q, s.H.drewN q, s.lt, s.own.drewN q⟩
theorem RT.below (s : RT w0 w B R A n l K h X m cc xl) (hb : Below w.heap.size w w') : RT w0 w' B R A n l K h X m cc xl := ⟨s.S.below hb, s.H.keeps hb, s.lt, s.own.keeps hb⟩
theorem RT.set_ (s : RT w0 w B R A n l K h X m cc xl) {i : Nat} (hi : i < 11) (v : Value) (he : ∀ j, j < 11 → upd (hf h) i v j = hf h' j) : RT w0 (w.setCell ⟨K, i, none⟩ v) B R A n l K h' X m cc xl :=
  ⟨s.S.far (p := ⟨K, i, none⟩) s.lt v, s.H.hset hi v he, s.lt, s.own.far (p := ⟨K, i, none⟩) (fun h => by have h2 : K + 1 ≤ K := (s.own.2.lt h).1; omega) v⟩
theorem RT.lit (s : RT w0 w B R A n l K h X m cc xl) {Z : Nat} (hZ : Z = w.heap.size) : RT w0 (w.alloc (.cells #[] 5)) B R A n l K h (some ⟨Z, 0, none⟩) 0 0 [] :=
  ⟨s.S.below ((Below.refl _ _).alloc (Nat.le_refl _) _), s.H.alloc _, s.lt, OwnI.lit hZ [] _ (by have := s.H.lt; omega) (Nat.zero_le _)⟩
theorem RT.grown {X' : Option Addr} {m' cc' : Nat} {xl' : List Int} (s : RT w0 w B R A n l K h X m cc xl) (hg : w.grownBy w' (blkOf X)) (ho : OwnI .u8 w' (K + 1) 5 X' m' cc' xl') : RT w0 w' B R A n l K h X' m' cc' xl' := by
  have hlo : ∀ k, blkOf X = some k → K + 1 ≤ k := fun k hk => (s.own.2.lt hk).1
  exact ⟨s.S.grown hg fun k hk => by have := hlo k hk; have := s.lt; omega, s.H.grown hg fun h => by have := hlo _ h.symm; omega, s.lt, ho⟩
end
theorem RT.fin {w0 w : World} {B R n K m cc : Nat} {A X : Option Addr} {l xl : List Int} {h : HV} (s : RT w0 w B R A n l K h X m cc xl) : Ar (((((((((((w.setCell ⟨R, 0, none⟩ (.bool h.tx)).setCell ⟨R, 1, none⟩ (.bool h.sm)).setCell ⟨R, 2, none⟩ (.int .u32 h.tm)).setCell ⟨R, 3, none⟩ (.int .u8 h.fl)).setCell ⟨R, 4, none⟩ (.int .u8 h.sy)).setCell ⟨R, 5, none⟩ h.ex).setCell ⟨R, 6, none⟩ (.bool h.hE)).setCell ⟨R, 7, none⟩ (.string h.nm)).setCell ⟨R, 8, none⟩ (.string h.cm)).setCell ⟨R, 9, none⟩ (.bool h.hN)).setCell ⟨R, 10, none⟩ (.bool h.hC)) R 11 (hf h) ∧ Below w0.heap.size w0 (((((((((((w.setCell ⟨R, 0, none⟩ (.bool h.tx)).setCell ⟨R, 1, none⟩ (.bool h.sm)).setCell ⟨R, 2, none⟩ (.int .u32 h.tm)).setCell ⟨R, 3, none⟩ (.int .u8 h.fl)).setCell ⟨R, 4, none⟩ (.int .u8 h.sy)).setCell ⟨R, 5, none⟩ h.ex).setCell ⟨R, 6, none⟩ (.bool h.hE)).setCell ⟨R, 7, none⟩ (.string h.nm)).setCell ⟨R, 8, none⟩ (.string h.cm)).setCell ⟨R, 9, none⟩ (.bool h.hN)).setCell ⟨R, 10, none⟩ (.bool h.hC)) ∧ RdI .u8 (((((((((((w.setCell ⟨R, 0, none⟩ (.bool h.tx)).setCell ⟨R, 1, none⟩ (.bool h.sm)).setCell ⟨R, 2, none⟩ (.int .u32 h.tm)).setCell ⟨R, 3, none⟩ (.int .u8 h.fl)).setCell ⟨R, 4, none⟩ (.int .u8 h.sy)).setCell ⟨R, 5, none⟩ h.ex).setCell ⟨R, 6, none⟩ (.bool h.hE)).setCell ⟨R, 7, none⟩ (.string h.nm)).setCell ⟨R, 8, none⟩ (.string h.cm)).setCell ⟨R, 9, none⟩ (.bool h.hN)).setCell ⟨R, 10, none⟩ (.bool h.hC)) ((((((((((((w.setCell ⟨R, 0, none⟩ (.bool h.tx)).setCell ⟨R, 1, none⟩ (.bool h.sm)).setCell ⟨R, 2, none⟩ (.int .u32 h.tm)).setCell ⟨R, 3, none⟩ (.int .u8 h.fl)).setCell ⟨R, 4, none⟩ (.int .u8 h.sy)).setCell ⟨R, 5, none⟩ h.ex).setCell ⟨R, 6, none⟩ (.bool h.hE)).setCell ⟨R, 7, none⟩ (.string h.nm)).setCell ⟨R, 8, none⟩ (.string h.cm)).setCell ⟨R, 9, none⟩ (.bool h.hN)).setCell ⟨R, 10, none⟩ (.bool h.hC))).heap.size X m xl := by
  have hx : ∀ k, blkOf X = some k → k ≠ R := fun k hk h => by have h2 : K + 1 ≤ k := (s.own.2.lt hk).1; have := s.lt; omega
  refine ⟨?_, ?_, ?_⟩
  · refine Ar.congr (((((((((((s.S.H.set_ (i := 0) (by omega) (.bool h.tx)).set_ (i := 1) (by omega) (.bool h.sm)).set_ (i := 2) (by omega) (.int .u32 h.tm)).set_ (i := 3) (by omega) (.int .u8 h.fl)).set_ (i := 4) (by omega) (.int .u8 h.sy)).set_ (i := 5) (by omega) h.ex).set_ (i := 6) (by omega) (.bool h.hE)).set_ (i := 7) (by omega) (.string h.nm)).set_ (i := 8) (by omega) (.string h.cm)).set_ (i := 9) (by omega) (.bool h.hN)).set_ (i := 10) (by omega) (.bool h.hC)) (fun i hi => ?_)
    rcases lt11 hi with rfl | rfl | rfl | rfl | rfl | rfl | rfl | rfl | rfl | rfl | rfl <;> rfl
  · have h9 := s.S.eq
    have hR : R ≤ R := Nat.le_refl R
    rw [← h9]
    exact (((((((((((s.S.b.setCell (p := ⟨R, 0, none⟩) hR (.bool h.tx)).setCell (p := ⟨R, 1, none⟩) hR (.bool h.sm)).setCell (p := ⟨R, 2, none⟩) hR (.int .u32 h.tm)).setCell (p := ⟨R, 3, none⟩) hR (.int .u8 h.fl)).setCell (p := ⟨R, 4, none⟩) hR (.int .u8 h.sy)).setCell (p := ⟨R, 5, none⟩) hR h.ex).setCell (p := ⟨R, 6, none⟩) hR (.bool h.hE)).setCell (p := ⟨R, 7, none⟩) hR (.string h.nm)).setCell (p := ⟨R, 8, none⟩) hR (.string h.cm)).setCell (p := ⟨R, 9, none⟩) hR (.bool h.hN)).setCell (p := ⟨R, 10, none⟩) hR (.bool h.hC))
  · exact ((((((((((((s.own.far (p := ⟨R, 0, none⟩) (fun h => hx _ h rfl) (.bool h.tx)).far (p := ⟨R, 1, none⟩) (fun h => hx _ h rfl) (.bool h.sm)).far (p := ⟨R, 2, none⟩) (fun h => hx _ h rfl) (.int .u32 h.tm)).far (p := ⟨R, 3, none⟩) (fun h => hx _ h rfl) (.int .u8 h.fl)).far (p := ⟨R, 4, none⟩) (fun h => hx _ h rfl) (.int .u8 h.sy)).far (p := ⟨R, 5, none⟩) (fun h => hx _ h rfl) h.ex).far (p := ⟨R, 6, none⟩) (fun h => hx _ h rfl) (.bool h.hE)).far (p := ⟨R, 7, none⟩) (fun h => hx _ h rfl) (.string h.nm)).far (p := ⟨R, 8, none⟩) (fun h => hx _ h rfl) (.string h.cm)).far (p := ⟨R, 9, none⟩) (fun h => hx _ h rfl) (.bool h.hN)).far (p := ⟨R, 10, none⟩) (fun h => hx _ h rfl) (.bool h.hC))).rd
theorem tdv {F : Int} (h : 0 ≤ F ∧ F < 256) : (F.tmod 2 == 1) = bit F 1 ∧ ((IntKind.i64.wrap (F.tdiv 2)).tmod 2 == 1) = bit F 2 ∧ ((IntKind.i64.wrap (F.tdiv 4)).tmod 2 == 1) = bit F 4 ∧ ((IntKind.i64.wrap (F.tdiv 8)).tmod 2 == 1) = bit F 8 ∧ ((IntKind.i64.wrap (F.tdiv 16)).tmod 2 == 1) = bit F 16 := by
  have key : ∀ k : Int, 0 < k → ((IntKind.i64.wrap (F.tdiv k)).tmod 2 == 1) = bit F k := fun k hk => by
    have h1 : F.tdiv k = F / k := Int.tdiv_eq_ediv_of_nonneg h.1
    have h2 : 0 ≤ F / k ∧ F / k ≤ F := ⟨Int.ediv_nonneg h.1 (by omega), Int.ediv_le_self _ h.1⟩
    rw [h1, IntWalk.i64_in _ (by omega), Int.tmod_eq_emod_of_nonneg h2.1]
    unfold bit
    rw [Bool.eq_iff_iff]
    simp
  refine ⟨?_, key 2 (by omega), key 4 (by omega), key 8 (by omega), key 16 (by omega)⟩
  have := key 1 (by omega)
  rw [Int.tdiv_one, IntWalk.i64_in _ (by omega)] at this
  exact this
theorem add_pos (a : Addr) {k : Nat} (h : k ≠ 0) : a.add k = ⟨a.block, a.off + k, none⟩ := by unfold Addr.add; rw [if_neg h]
theorem err_post {w w' : World} {l : List Int} {e : Int} (hb : Below w.heap.size w w') (hq : q12 l = e) (h0 : e ≠ 0) : ParsePost w l (.returned (.tuple #[hagg hz, .int .i64 0, .int .i64 e])) w' :=
  ⟨none, 0, 0, [], Nat.le_refl _, Nat.zero_le _, ⟨rfl, Rd.nil_⟩, hb, .inr ⟨by rw [hq]; exact h0, by rw [hq]⟩⟩

set_option maxRecDepth 100000 in
set_option maxHeartbeats 4000000 in
theorem rheader_any (w : World) (B n c : Nat) (A : Option Addr) (l : List Int) (hr : RdI .u8 w B A n l) (hB : B ≤ w.heap.size) (hn : n ≤ 1000000) (hc : n ≤ c) (hb : ∀ x ∈ l, 0 ≤ x ∧ x < 256) :
    Calls Try.prog 10 #[.slice A n c] w (ParsePost w l) := by
  have HN := Lib.hid hr.1
  go_enter Try.func10, Try.ntmps10
  go_wp2_with fail
  have S0 : RS w ((w.alloc (Obj.cells #[Value.bool false, Value.bool false, Value.int IntKind.u32 0, Value.int IntKind.u8 0, Value.int IntKind.u8 0, Value.slice none 0 0, Value.bool false, Value.string { data := #[] }, Value.string { data := #[] }, Value.bool false, Value.bool false] 25)).alloc (Obj.cells #[Value.int IntKind.u8 31, Value.int IntKind.u8 139, Value.int IntKind.u8 8] 5)) B w.heap.size A n l :=
    ⟨(Ar.new' rfl _ _ rfl (fun i hi => by
      rcases lt11 hi with rfl | rfl | rfl | rfl | rfl | rfl | rfl | rfl | rfl | rfl | rfl
      all_goals rfl)).alloc _, (hr.alloc hB _).alloc (by simp; omega) _, ((Below.refl _ _).alloc (Nat.le_refl _) _).alloc (by simp) _, rfl, hB⟩
  have hM0 : RdI .u8 ((w.alloc (Obj.cells #[Value.bool false, Value.bool false, Value.int IntKind.u32 0, Value.int IntKind.u8 0, Value.int IntKind.u8 0, Value.slice none 0 0, Value.bool false, Value.string { data := #[] }, Value.string { data := #[] }, Value.bool false, Value.bool false] 25)).alloc (Obj.cells #[Value.int IntKind.u8 31, Value.int IntKind.u8 139, Value.int IntKind.u8 8] 5)) (w.heap.size + 1 + 1) (some ⟨w.heap.size + 1, 0, none⟩) 3 magic := RdI.lit' .u8 (w := w.alloc (Obj.cells #[Value.bool false, Value.bool false, Value.int IntKind.u32 0, Value.int IntKind.u8 0, Value.int IntKind.u8 0, Value.slice none 0 0, Value.bool false, Value.string { data := #[] }, Value.string { data := #[] }, Value.bool false, Value.bool false] 25)) (by simp) magic 5
  revert S0 hM0
  generalize ((w.alloc (Obj.cells #[Value.bool false, Value.bool false, Value.int IntKind.u32 0, Value.int IntKind.u8 0, Value.int IntKind.u8 0, Value.slice none 0 0, Value.bool false, Value.string { data := #[] }, Value.string { data := #[] }, Value.bool false, Value.bool false] 25)).alloc (Obj.cells #[Value.int IntKind.u8 31, Value.int IntKind.u8 139, Value.int IntKind.u8 8] 5)) = w1
  intro S0 hM0
  obtain ⟨M, hM⟩ : ∃ M, w.heap.size + 1 = M := ⟨_, rfl⟩
  have HM : Hid (w.heap.size < M) := by show _ < _; omega
  rw [hM] at hM0 ⊢
  clear hM
  obtain ⟨R, hR⟩ : ∃ R, w.heap.size = R := ⟨_, rfl⟩
  rw [hR] at S0 HM ⊢
  clear hR
  have HMlt : Hid (M < w1.heap.size) := by
    obtain ⟨ad, e, hb, hc⟩ := hM0.2 (by omega)
    cases e
    have h0 := hc 0 (by omega)
    show _ < _
    rw [addr0] at h0
    rcases Nat.lt_or_ge M w1.heap.size with h' | h'
    · exact h'
    · simp [World.cell?, Array.getElem?_eq_none h'] at h0
  have HMh : Hid (∀ k, k < 3 → w1.cell? ⟨M, k, none⟩ = some (.int .u8 (ix magic k))) := fun k hk => hM0.head hk
  clear hM0
  go_loopw [6] (fun i wr => ∃ (k q : Nat), k ≤ 3 ∧ i = .int .i64 k ∧ wr = w1.drewN q ∧ Hid (pre l k)) (fun i _ => 3 - (intOf i).toNat)
  case atStart => exact ⟨0, 0, by omega, rfl, rfl, fun i hi => by omega⟩
  case round =>
    obtain ⟨k, q, hk, rfl, rfl, HP⟩ := hrel
    by_cases hk3 : k < 3
    · by_cases hkn : k < n
      · have mk := HMh.out k hk3
        obtain ⟨ad, rfl, _, hl⟩ := S0.rd.at_ hkn
        have hkI : (0 : Int) ≤ k ∧ (k : Int) < 3 ∧ (k : Int) < n ∧ (n : Int) ≤ 1000000 := by omega
        obtain ⟨x, hx⟩ : ∃ x, ix l k = x := ⟨_, rfl⟩
        obtain ⟨y, hy⟩ : ∃ y, ix magic k = y := ⟨_, rfl⟩
        rw [hx] at hl
        rw [hy] at mk
        by_cases hxy : x = y
        · have HP2 : Hid (pre l (k + 1)) := fun i hi => by
            rcases Nat.lt_or_ge i k with h1 | h1
            · exact HP.out i h1
            · obtain rfl : i = k := by omega
              exact ⟨by rw [← HN.out]; exact hkn, by rw [hx, hy]; exact hxy⟩
          clear hx hy
          subst hxy
          go_wp2_with fail
          go_quiet (fail)
          go_wp2
          go_roundw
          case rel => exact ⟨k + 1, _, by omega, by go_num, rfl, HP2⟩
          case measure => simp [intOf]; omega
        · have HX : Hid (ix l k ≠ ix magic k) := by show _ ≠ _; rw [hx, hy]; exact hxy
          clear hx hy
          have hxB : (x != y) = true := by simpa using hxy
          have hlen : k < l.length := by rw [← HN.out]; exact hkn
          go_wp2_with fail
          go_quiet (fail)
          have S := ((S0.drewN q).drewN nq)
          revert S
          generalize World.drewN _ _ = wc
          intro S
          have HQ : Hid (q12 l = 2) := by show _ = _; exact pre_form hk3 HP.out hlen HX.out
          have r0 : wc.cell? ⟨R, 0, none⟩ = some (.bool false) := S.H.cell (i := 0) (by omega)
          have f0 := S.H.frozen' (i := 0) (by omega)
          have r1 : wc.cell? ⟨R, 1, none⟩ = some (.bool false) := S.H.cell (i := 1) (by omega)
          have f1 := S.H.frozen' (i := 1) (by omega)
          have r2 : wc.cell? ⟨R, 2, none⟩ = some (.int .u32 0) := S.H.cell (i := 2) (by omega)
          have f2 := S.H.frozen' (i := 2) (by omega)
          have r3 : wc.cell? ⟨R, 3, none⟩ = some (.int .u8 0) := S.H.cell (i := 3) (by omega)
          have f3 := S.H.frozen' (i := 3) (by omega)
          have r4 : wc.cell? ⟨R, 4, none⟩ = some (.int .u8 0) := S.H.cell (i := 4) (by omega)
          have f4 := S.H.frozen' (i := 4) (by omega)
          have r5 : wc.cell? ⟨R, 5, none⟩ = some (.slice none 0 0) := S.H.cell (i := 5) (by omega)
          have f5 := S.H.frozen' (i := 5) (by omega)
          have r6 : wc.cell? ⟨R, 6, none⟩ = some (.bool false) := S.H.cell (i := 6) (by omega)
          have f6 := S.H.frozen' (i := 6) (by omega)
          have r7 : wc.cell? ⟨R, 7, none⟩ = some (.string ByteArray.empty) := S.H.cell (i := 7) (by omega)
          have f7 := S.H.frozen' (i := 7) (by omega)
          have r8 : wc.cell? ⟨R, 8, none⟩ = some (.string ByteArray.empty) := S.H.cell (i := 8) (by omega)
          have f8 := S.H.frozen' (i := 8) (by omega)
          have r9 : wc.cell? ⟨R, 9, none⟩ = some (.bool false) := S.H.cell (i := 9) (by omega)
          have f9 := S.H.frozen' (i := 9) (by omega)
          have r10 : wc.cell? ⟨R, 10, none⟩ = some (.bool false) := S.H.cell (i := 10) (by omega)
          have f10 := S.H.frozen' (i := 10) (by omega)
          go_wp2_with ((with_reducible (show bodyPost _ _ _ _ _ _)); exact bodyPost_ret (results_hdr2 S.err.1 rfl rfl rfl) rfl (err_post S.err.2 HQ.out (by decide)))
      · have hlen : l.length ≤ k := by rw [← HN.out]; omega
        have hkI : (0 : Int) ≤ k ∧ (n : Int) ≤ k := by omega
        have S := S0.drewN q
        clear S0
        revert S
        generalize w1.drewN q = wc
        intro S
        have HQ : Hid (q12 l = 5) := by show _ = _; exact pre_end hk3 HP.out hlen
        have r0 : wc.cell? ⟨R, 0, none⟩ = some (.bool false) := S.H.cell (i := 0) (by omega)
        have f0 := S.H.frozen' (i := 0) (by omega)
        have r1 : wc.cell? ⟨R, 1, none⟩ = some (.bool false) := S.H.cell (i := 1) (by omega)
        have f1 := S.H.frozen' (i := 1) (by omega)
        have r2 : wc.cell? ⟨R, 2, none⟩ = some (.int .u32 0) := S.H.cell (i := 2) (by omega)
        have f2 := S.H.frozen' (i := 2) (by omega)
        have r3 : wc.cell? ⟨R, 3, none⟩ = some (.int .u8 0) := S.H.cell (i := 3) (by omega)
        have f3 := S.H.frozen' (i := 3) (by omega)
        have r4 : wc.cell? ⟨R, 4, none⟩ = some (.int .u8 0) := S.H.cell (i := 4) (by omega)
        have f4 := S.H.frozen' (i := 4) (by omega)
        have r5 : wc.cell? ⟨R, 5, none⟩ = some (.slice none 0 0) := S.H.cell (i := 5) (by omega)
        have f5 := S.H.frozen' (i := 5) (by omega)
        have r6 : wc.cell? ⟨R, 6, none⟩ = some (.bool false) := S.H.cell (i := 6) (by omega)
        have f6 := S.H.frozen' (i := 6) (by omega)
        have r7 : wc.cell? ⟨R, 7, none⟩ = some (.string ByteArray.empty) := S.H.cell (i := 7) (by omega)
        have f7 := S.H.frozen' (i := 7) (by omega)
        have r8 : wc.cell? ⟨R, 8, none⟩ = some (.string ByteArray.empty) := S.H.cell (i := 8) (by omega)
        have f8 := S.H.frozen' (i := 8) (by omega)
        have r9 : wc.cell? ⟨R, 9, none⟩ = some (.bool false) := S.H.cell (i := 9) (by omega)
        have f9 := S.H.frozen' (i := 9) (by omega)
        have r10 : wc.cell? ⟨R, 10, none⟩ = some (.bool false) := S.H.cell (i := 10) (by omega)
        have f10 := S.H.frozen' (i := 10) (by omega)
        go_wp2_with ((with_reducible (show bodyPost _ _ _ _ _ _)); exact bodyPost_ret (results_hdr2 S.err.1 rfl rfl rfl) rfl (err_post S.err.2 HQ.out (by decide)))
    · obtain rfl : 3 = k := by omega
      have S := S0.drewN q
      clear S0
      revert S
      generalize w1.drewN q = wc
      intro S
      clear HMh HMlt
      by_cases hl4 : (n : Int) < 4
      · have h4 : l.length < 4 := by rw [← HN.out]; omega
        have HQ : Hid (q12 l = 5) := by show _ = _; exact len4 HP.out h4
        have r0 : wc.cell? ⟨R, 0, none⟩ = some (.bool false) := S.H.cell (i := 0) (by omega)
        have f0 := S.H.frozen' (i := 0) (by omega)
        have r1 : wc.cell? ⟨R, 1, none⟩ = some (.bool false) := S.H.cell (i := 1) (by omega)
        have f1 := S.H.frozen' (i := 1) (by omega)
        have r2 : wc.cell? ⟨R, 2, none⟩ = some (.int .u32 0) := S.H.cell (i := 2) (by omega)
        have f2 := S.H.frozen' (i := 2) (by omega)
        have r3 : wc.cell? ⟨R, 3, none⟩ = some (.int .u8 0) := S.H.cell (i := 3) (by omega)
        have f3 := S.H.frozen' (i := 3) (by omega)
        have r4 : wc.cell? ⟨R, 4, none⟩ = some (.int .u8 0) := S.H.cell (i := 4) (by omega)
        have f4 := S.H.frozen' (i := 4) (by omega)
        have r5 : wc.cell? ⟨R, 5, none⟩ = some (.slice none 0 0) := S.H.cell (i := 5) (by omega)
        have f5 := S.H.frozen' (i := 5) (by omega)
        have r6 : wc.cell? ⟨R, 6, none⟩ = some (.bool false) := S.H.cell (i := 6) (by omega)
        have f6 := S.H.frozen' (i := 6) (by omega)
        have r7 : wc.cell? ⟨R, 7, none⟩ = some (.string ByteArray.empty) := S.H.cell (i := 7) (by omega)
        have f7 := S.H.frozen' (i := 7) (by omega)
        have r8 : wc.cell? ⟨R, 8, none⟩ = some (.string ByteArray.empty) := S.H.cell (i := 8) (by omega)
        have f8 := S.H.frozen' (i := 8) (by omega)
        have r9 : wc.cell? ⟨R, 9, none⟩ = some (.bool false) := S.H.cell (i := 9) (by omega)
        have f9 := S.H.frozen' (i := 9) (by omega)
        have r10 : wc.cell? ⟨R, 10, none⟩ = some (.bool false) := S.H.cell (i := 10) (by omega)
        have f10 := S.H.frozen' (i := 10) (by omega)
        go_wp2_with ((with_reducible (show bodyPost _ _ _ _ _ _)); exact bodyPost_ret (results_hdr2 S.err.1 rfl rfl rfl) rfl (err_post S.err.2 HQ.out (by decide)))
      have h4 : 4 ≤ l.length := by rw [← HN.out]; omega
      obtain ⟨ad, rfl, _, hl⟩ := S.rd.at_ (i := 3) (by omega)
      obtain ⟨F, hF⟩ : ∃ F, ix l 3 = F := ⟨_, rfl⟩
      have hF0 := ix_mem_bd hb 3
      rw [hF] at hl hF0
      rw [add_pos ad (by omega)] at hl
      have HF := Lib.hid hF
      clear hF
      by_cases hfl : 31 < F
      · have hf' : 31 < ix l 3 := by rw [HF.out]; exact hfl
        have HQ : Hid (q12 l = 2) := by show _ = _; exact flg_bad HP.out h4 hf'
        have r0 : wc.cell? ⟨R, 0, none⟩ = some (.bool false) := S.H.cell (i := 0) (by omega)
        have f0 := S.H.frozen' (i := 0) (by omega)
        have r1 : wc.cell? ⟨R, 1, none⟩ = some (.bool false) := S.H.cell (i := 1) (by omega)
        have f1 := S.H.frozen' (i := 1) (by omega)
        have r2 : wc.cell? ⟨R, 2, none⟩ = some (.int .u32 0) := S.H.cell (i := 2) (by omega)
        have f2 := S.H.frozen' (i := 2) (by omega)
        have r3 : wc.cell? ⟨R, 3, none⟩ = some (.int .u8 0) := S.H.cell (i := 3) (by omega)
        have f3 := S.H.frozen' (i := 3) (by omega)
        have r4 : wc.cell? ⟨R, 4, none⟩ = some (.int .u8 0) := S.H.cell (i := 4) (by omega)
        have f4 := S.H.frozen' (i := 4) (by omega)
        have r5 : wc.cell? ⟨R, 5, none⟩ = some (.slice none 0 0) := S.H.cell (i := 5) (by omega)
        have f5 := S.H.frozen' (i := 5) (by omega)
        have r6 : wc.cell? ⟨R, 6, none⟩ = some (.bool false) := S.H.cell (i := 6) (by omega)
        have f6 := S.H.frozen' (i := 6) (by omega)
        have r7 : wc.cell? ⟨R, 7, none⟩ = some (.string ByteArray.empty) := S.H.cell (i := 7) (by omega)
        have f7 := S.H.frozen' (i := 7) (by omega)
        have r8 : wc.cell? ⟨R, 8, none⟩ = some (.string ByteArray.empty) := S.H.cell (i := 8) (by omega)
        have f8 := S.H.frozen' (i := 8) (by omega)
        have r9 : wc.cell? ⟨R, 9, none⟩ = some (.bool false) := S.H.cell (i := 9) (by omega)
        have f9 := S.H.frozen' (i := 9) (by omega)
        have r10 : wc.cell? ⟨R, 10, none⟩ = some (.bool false) := S.H.cell (i := 10) (by omega)
        have f10 := S.H.frozen' (i := 10) (by omega)
        go_wp2_with ((with_reducible (show bodyPost _ _ _ _ _ _)); exact bodyPost_ret (results_hdr2 S.err.1 rfl rfl rfl) rfl (err_post S.err.2 HQ.out (by decide)))
      by_cases hl10 : (n : Int) < 10
      · have h10 : l.length < 10 := by rw [← HN.out]; omega
        have HQ : Hid (q12 l = 5) := by show _ = _; exact len10 HP.out h4 (by rw [HF.out]; exact hfl) h10
        have r0 : wc.cell? ⟨R, 0, none⟩ = some (.bool false) := S.H.cell (i := 0) (by omega)
        have f0 := S.H.frozen' (i := 0) (by omega)
        have r1 : wc.cell? ⟨R, 1, none⟩ = some (.bool false) := S.H.cell (i := 1) (by omega)
        have f1 := S.H.frozen' (i := 1) (by omega)
        have r2 : wc.cell? ⟨R, 2, none⟩ = some (.int .u32 0) := S.H.cell (i := 2) (by omega)
        have f2 := S.H.frozen' (i := 2) (by omega)
        have r3 : wc.cell? ⟨R, 3, none⟩ = some (.int .u8 0) := S.H.cell (i := 3) (by omega)
        have f3 := S.H.frozen' (i := 3) (by omega)
        have r4 : wc.cell? ⟨R, 4, none⟩ = some (.int .u8 0) := S.H.cell (i := 4) (by omega)
        have f4 := S.H.frozen' (i := 4) (by omega)
        have r5 : wc.cell? ⟨R, 5, none⟩ = some (.slice none 0 0) := S.H.cell (i := 5) (by omega)
        have f5 := S.H.frozen' (i := 5) (by omega)
        have r6 : wc.cell? ⟨R, 6, none⟩ = some (.bool false) := S.H.cell (i := 6) (by omega)
        have f6 := S.H.frozen' (i := 6) (by omega)
        have r7 : wc.cell? ⟨R, 7, none⟩ = some (.string ByteArray.empty) := S.H.cell (i := 7) (by omega)
        have f7 := S.H.frozen' (i := 7) (by omega)
        have r8 : wc.cell? ⟨R, 8, none⟩ = some (.string ByteArray.empty) := S.H.cell (i := 8) (by omega)
        have f8 := S.H.frozen' (i := 8) (by omega)
        have r9 : wc.cell? ⟨R, 9, none⟩ = some (.bool false) := S.H.cell (i := 9) (by omega)
        have f9 := S.H.frozen' (i := 9) (by omega)
        have r10 : wc.cell? ⟨R, 10, none⟩ = some (.bool false) := S.H.cell (i := 10) (by omega)
        have f10 := S.H.frozen' (i := 10) (by omega)
        go_wp2_with ((with_reducible (show bodyPost _ _ _ _ _ _)); exact bodyPost_ret (results_hdr2 S.err.1 rfl rfl rfl) rfl (err_post S.err.2 HQ.out (by decide)))
      have HT : Hid (ten l) := ten_ok HP.out (by rw [HF.out]; exact hfl) (by rw [← HN.out]; omega)
      obtain ⟨i0, hi, hz0, hz1, hz2⟩ := info_parts rbyte_info
      obtain ⟨A4, hA4⟩ : ∃ A4, cutA (some ad) c 4 = A4 := ⟨_, rfl⟩
      obtain ⟨d4, hd4⟩ : ∃ d4, c - 4 = d4 := ⟨_, rfl⟩
      have hsl : ∀ W, (Instr.slice 23 (.slice (some ad) n c) (some (.int .i64 4)) (some (.int .i64 8)) none).run Try.prog W = .ok (.slice A4 4 d4) W := fun W => by
        have := run_slice_mid (P := Try.prog) 23 5 Try.underlying23 hi hz1 (some ad) n c (a := 4) (b := 8) (by omega) (by omega) W
        rw [hA4, hd4] at this
        exact this
      have hr4 : ∀ W, RdI .u8 W B (some ad) n l → RdI .u8 W B A4 4 ((l.drop 4).take 4) := fun W h => hA4 ▸ rd_mid h (by omega) hc
      have HR4 := Lib.hid hr4
      clear hr4 hA4 hd4 hi hz0 hz1 hz2
      obtain ⟨ad', had', hbl, hl8⟩ := S.rd.at_ (i := 8) (by omega)
      cases had'
      obtain ⟨ad', had', _, hl9⟩ := S.rd.at_ (i := 9) (by omega)
      cases had'
      rw [add_pos ad (by omega)] at hl8 hl9
      obtain ⟨x8, hx8⟩ : ∃ x, ix l 8 = x := ⟨_, rfl⟩
      obtain ⟨x9, hx9⟩ : ∃ x, ix l 9 = x := ⟨_, rfl⟩
      rw [hx8] at hl8
      rw [hx9] at hl9
      have h8B := ix_mem_bd hb 8
      have h9B := ix_mem_bd hb 9
      rw [hx8] at h8B
      rw [hx9] at h9B
      obtain ⟨tm, htm⟩ : ∃ x, leI ((l.drop 4).take 4) = x := ⟨_, rfl⟩
      have htB := leI_bd (take_bd (drop_bd hb 4) 4)
      rw [show ((l.drop 4).take 4).length = 4 by rw [List.length_take, List.length_drop, ← HN.out]; omega, htm] at htB
      have htB : 0 ≤ tm ∧ tm < 4294967296 := htB
      have HX8 := Lib.hid hx8
      have HX9 := Lib.hid hx9
      have HTM := Lib.hid htm
      clear hx8 hx9 htm
      have hadl : ad.block < wc.heap.size := by have := S.H.lt; have := S.BR; omega
      have hnum : ∀ W, RdI .u8 W B (some ad) n l → Calls Try.prog 21 #[.slice A4 4 d4] W fun e w' => e = .returned (.int .i64 tm) ∧ w' = W := fun W h => by
        have := rnum_any W B 4 d4 A4 _ (HR4.out W h) (by omega) (take_bd (drop_bd hb 4) 4)
        rw [HTM.out] at this
        exact this
      have HNUM := Lib.hid hnum
      clear hnum
      have hrw := S.rd
      have h8n : (8 : Int) < n := by omega
      have h9n : (9 : Int) < n := by omega
      have h4n : (4 : Int) < n := by omega
      have hBw : B ≤ wc.heap.size := by have := S.H.lt; have := S.BR; omega
      have htd := Lib.hid (tdv hF0)
      go_upto_region 16 with fail
      go_cut [8] (fun s wx => ∃ K, s = .pointer (some ⟨K, 0, none⟩) ∧ RT w wx B R (some ad) n l K { h1V F with tm := tm, fl := x8, sy := x9 } none 0 0 [])
      case first =>
        go_region_held3 (fun w' => w'.cell? ⟨ad.block, ad.off + 8, none⟩ = some (.int .u8 x8) ∧ w'.cell? ⟨ad.block, ad.off + 9, none⟩ = some (.int .u8 x9) ∧ RdI .u8 w' B (some ad) n l)
          (first | exact ⟨hl8, hl9, hrw⟩ | exact ⟨(World.cell?_alloc_lt wc.drew _ ⟨ad.block, ad.off + 8, none⟩ hadl).trans hl8, (World.cell?_alloc_lt wc.drew _ ⟨ad.block, ad.off + 9, none⟩ hadl).trans hl9, RdI.alloc (w := wc.drew) hrw hBw _⟩ | exact ⟨(World.cell?_alloc_lt wc _ ⟨ad.block, ad.off + 8, none⟩ hadl).trans hl8, (World.cell?_alloc_lt wc _ ⟨ad.block, ad.off + 9, none⟩ hadl).trans hl9, RdI.alloc (w := wc) hrw hBw _⟩)
          (first | (go_at_call 21; (refine (HNUM.out _ (by first | exact hrw | exact RdI.alloc (w := wc.drew) hrw hBw _)).mono ?_); rintro e w7 ⟨rfl, rfl⟩))
        all_goals
          go_wp2
          go_meet
          refine ⟨_, rfl, (S.below ((Below.refl _ _).alloc (Nat.le_refl _) _)).drewN 1, (Ar.new' rfl _ _ rfl (fun i hi => ?_)).drew, S.H.lt, OwnI.nil_⟩
          rcases lt11 hi with rfl | rfl | rfl | rfl | rfl | rfl | rfl | rfl | rfl | rfl | rfl
          · exact congrArg (fun b => some (Value.bool b)) htd.out.1
          · exact congrArg (fun b => some (Value.bool b)) htd.out.2.1
          · exact congrArg (fun b => some (Value.int .u32 b)) (show IntKind.u32.wrap tm = tm by rw [IntKind.wrap_u32]; omega)
          · rfl
          · rfl
          · rfl
          · exact congrArg (fun b => some (Value.bool b)) htd.out.2.2.1
          · rfl
          · rfl
          · exact congrArg (fun b => some (Value.bool b)) htd.out.2.2.2.1
          · exact congrArg (fun b => some (Value.bool b)) htd.out.2.2.2.2
      case rest =>
      clear S hl hl8 hl9 hrw hadl hBw
      obtain ⟨K, rfl, T⟩ := hcut
      clear HR4 HNUM hsl HM
      obtain ⟨h1, hh1⟩ : ∃ h1 : HV, h1 = { h1V F with tm := tm, fl := x8, sy := x9 } := ⟨_, rfl⟩
      replace T : RT w wc B R (some ad) n l K { h1V F with tm := tm, fl := x8, sy := x9 } none 0 0 [] := T
      rw [← hh1] at T
      have HE : Hid (h1.hE = bit F 4 ∧ h1.hN = bit F 8 ∧ h1.hC = bit F 16 ∧ h1.sm = bit F 2) := by show _; rw [hh1]; exact ⟨rfl, rfl, rfl, rfl⟩
      have HH1 := Lib.hid hh1
      clear hh1 htd
      have HTF : Hid (fB l = F) := by show _ = _; rw [HT.out.2.2.1, HF.out]
      have r6 : wc.cell? ⟨K, 6, none⟩ = some (.bool (bit F 4)) := by rw [← HE.out.1]; exact T.H.cell (i := 6) (by omega)
      go_upto_if 83 with fail
      go_cut [9] (fun s wx => ∃ X m cc, s = .int .i64 (b9 l) ∧ Hid (q9 l = 0 ∧ b9 l ≤ n) ∧ RT w wx B R (some ad) n l K { h1 with ex := .slice X m cc } X m cc (exL l))
      case first =>
        have S := T.S
        cases hb4 : bit F 4 with
        | false =>
          have HQ := Lib.hid (ext_no HT.out (by rw [HTF.out]; exact hb4))
          go_wp2
          go_meet
          refine ⟨none, 0, 0, by rw [HQ.out.2.1]; rfl, ⟨HQ.out.1, by rw [HQ.out.2.1]; omega⟩, ?_⟩
          rw [HQ.out.2.2]
          have h9 : { h1 with ex := .slice none 0 0 } = h1 := by rw [HH1.out]; rfl
          rw [h9]; exact T
        | true =>
          have HB4 : Hid (bit (fB l) 4 = true) := by show _ = _; rw [HTF.out]; exact hb4
          by_cases hn12 : (n : Int) < 12
          · have h12 : l.length < 12 := by rw [← HN.out]; omega
            have HQ : Hid (q12 l = 5) := by show _ = _; exact ext_end HT.out HB4.out h12
            have r0 : wc.cell? ⟨R, 0, none⟩ = some (.bool false) := S.H.cell (i := 0) (by omega)
            have f0 := S.H.frozen' (i := 0) (by omega)
            have r1 : wc.cell? ⟨R, 1, none⟩ = some (.bool false) := S.H.cell (i := 1) (by omega)
            have f1 := S.H.frozen' (i := 1) (by omega)
            have r2 : wc.cell? ⟨R, 2, none⟩ = some (.int .u32 0) := S.H.cell (i := 2) (by omega)
            have f2 := S.H.frozen' (i := 2) (by omega)
            have r3 : wc.cell? ⟨R, 3, none⟩ = some (.int .u8 0) := S.H.cell (i := 3) (by omega)
            have f3 := S.H.frozen' (i := 3) (by omega)
            have r4 : wc.cell? ⟨R, 4, none⟩ = some (.int .u8 0) := S.H.cell (i := 4) (by omega)
            have f4 := S.H.frozen' (i := 4) (by omega)
            have r5 : wc.cell? ⟨R, 5, none⟩ = some (.slice none 0 0) := S.H.cell (i := 5) (by omega)
            have f5 := S.H.frozen' (i := 5) (by omega)
            have r6 : wc.cell? ⟨R, 6, none⟩ = some (.bool false) := S.H.cell (i := 6) (by omega)
            have f6 := S.H.frozen' (i := 6) (by omega)
            have r7 : wc.cell? ⟨R, 7, none⟩ = some (.string ByteArray.empty) := S.H.cell (i := 7) (by omega)
            have f7 := S.H.frozen' (i := 7) (by omega)
            have r8 : wc.cell? ⟨R, 8, none⟩ = some (.string ByteArray.empty) := S.H.cell (i := 8) (by omega)
            have f8 := S.H.frozen' (i := 8) (by omega)
            have r9 : wc.cell? ⟨R, 9, none⟩ = some (.bool false) := S.H.cell (i := 9) (by omega)
            have f9 := S.H.frozen' (i := 9) (by omega)
            have r10 : wc.cell? ⟨R, 10, none⟩ = some (.bool false) := S.H.cell (i := 10) (by omega)
            have f10 := S.H.frozen' (i := 10) (by omega)
            go_wp2_with ((with_reducible (show bodyPost _ _ _ _ _ _)); exact bodyPost_ret (results_hdr2 S.err.1 rfl rfl rfl) rfl (err_post S.err.2 HQ.out (by decide)))
          have h12 : 12 ≤ l.length := by rw [← HN.out]; omega
          obtain ⟨i0, hi, hz0, hz1, hz2⟩ := info_parts rbyte_info
          obtain ⟨A5, hA5⟩ : ∃ A5, cutA (some ad) c 10 = A5 := ⟨_, rfl⟩
          obtain ⟨d5, hd5⟩ : ∃ d5, c - 10 = d5 := ⟨_, rfl⟩
          have hs1 : ∀ W, (Instr.slice 23 (.slice (some ad) n c) (some (.int .i64 10)) (some (.int .i64 12)) none).run Try.prog W = .ok (.slice A5 2 d5) W := fun W => by
            have := run_slice_mid (P := Try.prog) 23 5 Try.underlying23 hi hz1 (some ad) n c (a := 10) (b := 12) (by omega) (by omega) W
            rw [hA5, hd5] at this
            exact this
          have hr5 : RdI .u8 wc B A5 2 ((l.drop 10).take 2) := hA5 ▸ rd_mid T.S.rd (by omega) hc
          have hNb := leI_bd (take_bd (drop_bd hb 10) 2)
          rw [show ((l.drop 10).take 2).length = 2 by rw [List.length_take, List.length_drop, ← HN.out]; omega] at hNb
          obtain ⟨N, hN⟩ := Int.eq_ofNat_of_zero_le hNb.1
          rw [hN] at hNb
          have hNb' : N < 65536 := by have := hNb.2; omega
          have HNN := Lib.hid hN
          clear hNb hN hA5 hd5
          by_cases hnN : (n : Int) < 12 + N
          · have h12N : l.length < 12 + N := by rw [← HN.out]; omega
            clear hi hz0 hz1 hz2
            go_wp2_with fail
            refine (rnum_any wc B 2 d5 A5 _ hr5 (by omega) (take_bd (drop_bd hb 10) 2)).mono ?_
            rintro E w7 ⟨rfl, hw7⟩; obtain rfl := hw7.symm
            rw [HNN.out]
            have HQ : Hid (q12 l = 5) := by show _ = _; exact ext_end2 HT.out HB4.out h12 HNN.out h12N
            have r0 : wc.cell? ⟨R, 0, none⟩ = some (.bool false) := S.H.cell (i := 0) (by omega)
            have f0 := S.H.frozen' (i := 0) (by omega)
            have r1 : wc.cell? ⟨R, 1, none⟩ = some (.bool false) := S.H.cell (i := 1) (by omega)
            have f1 := S.H.frozen' (i := 1) (by omega)
            have r2 : wc.cell? ⟨R, 2, none⟩ = some (.int .u32 0) := S.H.cell (i := 2) (by omega)
            have f2 := S.H.frozen' (i := 2) (by omega)
            have r3 : wc.cell? ⟨R, 3, none⟩ = some (.int .u8 0) := S.H.cell (i := 3) (by omega)
            have f3 := S.H.frozen' (i := 3) (by omega)
            have r4 : wc.cell? ⟨R, 4, none⟩ = some (.int .u8 0) := S.H.cell (i := 4) (by omega)
            have f4 := S.H.frozen' (i := 4) (by omega)
            have r5 : wc.cell? ⟨R, 5, none⟩ = some (.slice none 0 0) := S.H.cell (i := 5) (by omega)
            have f5 := S.H.frozen' (i := 5) (by omega)
            have r6 : wc.cell? ⟨R, 6, none⟩ = some (.bool false) := S.H.cell (i := 6) (by omega)
            have f6 := S.H.frozen' (i := 6) (by omega)
            have r7 : wc.cell? ⟨R, 7, none⟩ = some (.string ByteArray.empty) := S.H.cell (i := 7) (by omega)
            have f7 := S.H.frozen' (i := 7) (by omega)
            have r8 : wc.cell? ⟨R, 8, none⟩ = some (.string ByteArray.empty) := S.H.cell (i := 8) (by omega)
            have f8 := S.H.frozen' (i := 8) (by omega)
            have r9 : wc.cell? ⟨R, 9, none⟩ = some (.bool false) := S.H.cell (i := 9) (by omega)
            have f9 := S.H.frozen' (i := 9) (by omega)
            have r10 : wc.cell? ⟨R, 10, none⟩ = some (.bool false) := S.H.cell (i := 10) (by omega)
            have f10 := S.H.frozen' (i := 10) (by omega)
            go_wp2_with ((with_reducible (show bodyPost _ _ _ _ _ _)); exact bodyPost_ret (results_hdr2 S.err.1 rfl rfl rfl) rfl (err_post S.err.2 HQ.out (by decide)))
          have h12N : 12 + N ≤ l.length := by rw [← HN.out]; omega
          have HQ := Lib.hid (ext_ok HT.out HB4.out h12 HNN.out h12N)
          obtain ⟨A6, hA6⟩ : ∃ A6, cutA (some ad) c 12 = A6 := ⟨_, rfl⟩
          obtain ⟨d6, hd6⟩ : ∃ d6, c - 12 = d6 := ⟨_, rfl⟩
          have hs2 : ∀ W, (Instr.slice 23 (.slice (some ad) n c) (some (.int .i64 12)) (some (.int .i64 (12 + (N : Int)))) none).run Try.prog W = .ok (.slice A6 N d6) W := fun W => by
            have := run_slice_mid (P := Try.prog) 23 5 Try.underlying23 hi hz1 (some ad) n c (a := 12) (b := 12 + N) (by omega) (by omega) W
            rw [hA6, hd6, show 12 + N - 12 = N by omega] at this
            exact this
          have hr6 : RdI .u8 wc B A6 N ((l.drop 12).take N) := hA6 ▸ rd_mid T.S.rd (by omega) hc
          have Hi := Lib.hid hi
          have Hz0 := Lib.hid hz0
          have Hz1 := Lib.hid hz1
          have Hz2 := Lib.hid hz2
          clear hi hz0 hz1 hz2 hA6 hd6
          go_wp2_with fail
          refine (rnum_any wc B 2 d5 A5 _ hr5 (by omega) (take_bd (drop_bd hb 10) 2)).mono ?_
          rintro E w7 ⟨rfl, hw7⟩; obtain rfl := hw7.symm
          rw [HNN.out]
          have hKlt := T.H.lt
          have T2 := T.lit (Z := wc.heap.size) rfl
          have hr7 := hr6.alloc (by have := T.S.H.lt; have := T.S.BR; omega) (.cells #[] 5)
          go_wp2_with (at_builtin; go_must (refine wpList_app .u8 (K + 1) 5 i0 1 rfl (.tmp 105) (.tmp 111) _ rfl Try.underlying23 Hi.out Hz0.out Hz1.out Hz2.out rfl T2.own rfl hr7 (by omega) (by omega) (by simp; omega) ?_))
          intro A8 c8 w8 hown8 hg8 hat8
          have T3 := T2.grown hg8 hown8
          have r5 := T3.H.cell (i := 5) (by omega)
          have f5 := T3.H.frozen' (i := 5) (by omega)
          unfold hf at r5
          go_wp2
          go_meet
          refine ⟨A8, N, c8, by rw [HQ.out.2.1]; go_num, ⟨HQ.out.1, by rw [HQ.out.2.1]; omega⟩, ?_⟩
          rw [HQ.out.2.2]
          exact T3.set_ (i := 5) (h' := { h1 with ex := .slice A8 N c8 }) (by omega) (.slice A8 N c8) (fun j hj => by rcases lt11 hj with rfl | rfl | rfl | rfl | rfl | rfl | rfl | rfl | rfl | rfl | rfl <;> rfl)
      case rest =>
      clear T r6
      obtain ⟨X, m, cc, rfl, HQ9, T⟩ := hcut
      have r9 : wc.cell? ⟨K, 9, none⟩ = some (.bool (bit F 8)) := by rw [← HE.out.2.1]; exact T.H.cell (i := 9) (by omega)
      obtain ⟨a8, ha8⟩ : ∃ a, b9 l = a := ⟨_, rfl⟩
      have HA8 := Lib.hid ha8
      have hab8 : a8 ≤ n := by have := HQ9.out.2; omega
      rw [ha8]
      clear ha8
      go_upto_if 118 with fail
      go_cut [9] (fun s wx => s = .int .i64 (b10 l) ∧ Hid (q10 l = 0 ∧ b10 l ≤ n) ∧ RT w wx B R (some ad) n l K { h1 with ex := .slice X m cc, nm := strOf (nmL l) } X m cc (exL l))
      case first =>
        have S := T.S
        cases hb4 : bit F 8 with
        | false =>
          have HQ := Lib.hid (nam_no HQ9.out.1 (by rw [HTF.out]; exact hb4))
          go_wp2
          go_meet
          refine ⟨by rw [HQ.out.2.1, HA8.out], ⟨HQ.out.1, by rw [HQ.out.2.1, HA8.out]; exact hab8⟩, ?_⟩
          rw [HQ.out.2.2]
          exact (by have h9 : { h1 with ex := .slice X m cc, nm := strOf [] } = { h1 with ex := .slice X m cc } := by rw [HH1.out]; rfl
                    rw [h9]; exact T)
        | true =>
          have HB4 : Hid (bit (fB l) 8 = true) := by show _ = _; rw [HTF.out]; exact hb4
          obtain ⟨i0, hi, hz0, hz1, hz2⟩ := info_parts rbyte_info
          obtain ⟨r, hr9⟩ : ∃ r, l.drop a8 = r := ⟨_, rfl⟩
          obtain ⟨ad9, hA9⟩ : ∃ ad9, cutA (some ad) c a8 = some ad9 := by unfold cutA; split <;> exact ⟨_, rfl⟩
          have hs9 := run_slice_from (P := Try.prog) 23 5 Try.underlying23 hi hz1 (some ad) n c (j := a8) hab8
          rw [hA9] at hs9
          obtain ⟨n9, hn9⟩ : ∃ x, n - a8 = x := ⟨_, rfl⟩
          obtain ⟨d9, hd9⟩ : ∃ x, c - a8 = x := ⟨_, rfl⟩
          have hrr : RdI .u8 wc B (some ad9) n9 r := by rw [← hA9, ← hn9, ← hr9]; exact RdI.cutA T.S.rd hab8 hc
          rw [hn9, hd9] at hs9
          have hrl : r.length = n9 := hrr.1.symm
          have hn9d : n9 ≤ d9 ∧ n9 ≤ 1000000 ∧ a8 + n9 = n := by omega
          have htl := txR_len r
          obtain ⟨E9, hE9⟩ : ∃ x, (txR r).2.2 = x := ⟨_, rfl⟩
          obtain ⟨k9, hk9⟩ : ∃ x, (txR r).2.1 = x := ⟨_, rfl⟩
          obtain ⟨t9, ht9⟩ : ∃ x, (txR r).1 = x := ⟨_, rfl⟩
          have htx : ∀ W, RdI .u8 W B (some ad9) n9 r → Calls Try.prog 22 #[.slice (some ad9) n9 d9] W fun e w' => e = .returned (.tuple #[.string (strOf t9), .int .i64 (k9 : Int), .int .i64 E9]) ∧ w' = W := fun W h => by
            have := rtext_any W B n9 d9 ad9 r h (by omega) (by omega)
            unfold rtxv at this
            rw [hE9, hk9, ht9] at this
            exact this
          have HTX := Lib.hid (htx wc hrr)
          rw [hk9] at htl
          have hk9n : a8 + k9 ≤ n := by omega
          by_cases hE0 : E9 = 0
          · have HQ := Lib.hid (nam_ok HQ9.out.1 HB4.out (by rw [HA8.out, hr9, hE9]; exact hE0))
            rw [HA8.out, hr9, hk9, ht9] at HQ
            subst hE0
            have r5 := T.H.cell (i := 7) (by omega)
            have f5 := T.H.frozen' (i := 7) (by omega)
            unfold hf at r5
            clear hi hz0 hz1 hz2 hr9 hA9 hn9 hd9 hE9 hk9 ht9 htx
            go_wp2_with fail
            refine HTX.out.mono ?_
            rintro E w7 ⟨rfl, hw7⟩; obtain rfl := hw7.symm
            go_wp2
            go_meet
            refine ⟨by rw [HQ.out.2.1]; go_num, ⟨HQ.out.1, by rw [HQ.out.2.1]; exact hk9n⟩, ?_⟩
            rw [HQ.out.2.2]
            exact T.set_ (i := 7) (by omega) _ (fun j hj => by rcases lt11 hj with rfl | rfl | rfl | rfl | rfl | rfl | rfl | rfl | rfl | rfl | rfl <;> rfl)
          · have hbad := nam_bad HQ9.out.1 HB4.out (e := E9) (by rw [HA8.out, hr9, hE9]) hE0
            have HBAD := Lib.hid hbad
            clear hi hz0 hz1 hz2 hr9 hA9 hn9 hd9 hE9 hk9 ht9 htx hbad
            go_wp2_with fail
            refine HTX.out.mono ?_
            rintro E w7 ⟨rfl, hw7⟩; obtain rfl := hw7.symm
            have HQ : Hid (q12 l = E9) := by show _ = _; exact HBAD.out
            have r0 : wc.cell? ⟨R, 0, none⟩ = some (.bool false) := S.H.cell (i := 0) (by omega)
            have f0 := S.H.frozen' (i := 0) (by omega)
            have r1 : wc.cell? ⟨R, 1, none⟩ = some (.bool false) := S.H.cell (i := 1) (by omega)
            have f1 := S.H.frozen' (i := 1) (by omega)
            have r2 : wc.cell? ⟨R, 2, none⟩ = some (.int .u32 0) := S.H.cell (i := 2) (by omega)
            have f2 := S.H.frozen' (i := 2) (by omega)
            have r3 : wc.cell? ⟨R, 3, none⟩ = some (.int .u8 0) := S.H.cell (i := 3) (by omega)
            have f3 := S.H.frozen' (i := 3) (by omega)
            have r4 : wc.cell? ⟨R, 4, none⟩ = some (.int .u8 0) := S.H.cell (i := 4) (by omega)
            have f4 := S.H.frozen' (i := 4) (by omega)
            have r5 : wc.cell? ⟨R, 5, none⟩ = some (.slice none 0 0) := S.H.cell (i := 5) (by omega)
            have f5 := S.H.frozen' (i := 5) (by omega)
            have r6 : wc.cell? ⟨R, 6, none⟩ = some (.bool false) := S.H.cell (i := 6) (by omega)
            have f6 := S.H.frozen' (i := 6) (by omega)
            have r7 : wc.cell? ⟨R, 7, none⟩ = some (.string ByteArray.empty) := S.H.cell (i := 7) (by omega)
            have f7 := S.H.frozen' (i := 7) (by omega)
            have r8 : wc.cell? ⟨R, 8, none⟩ = some (.string ByteArray.empty) := S.H.cell (i := 8) (by omega)
            have f8 := S.H.frozen' (i := 8) (by omega)
            have r9 : wc.cell? ⟨R, 9, none⟩ = some (.bool false) := S.H.cell (i := 9) (by omega)
            have f9 := S.H.frozen' (i := 9) (by omega)
            have r10 : wc.cell? ⟨R, 10, none⟩ = some (.bool false) := S.H.cell (i := 10) (by omega)
            have f10 := S.H.frozen' (i := 10) (by omega)
            go_wp2_with ((with_reducible (show bodyPost _ _ _ _ _ _)); exact bodyPost_ret (results_hdr2 S.err.1 rfl rfl rfl) rfl (err_post S.err.2 HQ.out hE0))
      case rest =>
      clear T r9
      obtain ⟨rfl, HQ10, T⟩ := hcut
      have r10 : wc.cell? ⟨K, 10, none⟩ = some (.bool (bit F 16)) := by rw [← HE.out.2.2.1]; exact T.H.cell (i := 10) (by omega)
      obtain ⟨a16, ha16⟩ : ∃ a, b10 l = a := ⟨_, rfl⟩
      have HA16 := Lib.hid ha16
      have hab16 : a16 ≤ n := by have := HQ10.out.2; omega
      rw [ha16]
      clear ha16
      go_upto_if 137 with fail
      go_cut [9] (fun s wx => s = .int .i64 (b11 l) ∧ Hid (q11 l = 0 ∧ b11 l ≤ n) ∧ RT w wx B R (some ad) n l K { h1 with ex := .slice X m cc, nm := strOf (nmL l), cm := strOf (cmL l) } X m cc (exL l))
      case first =>
        have S := T.S
        cases hb4 : bit F 16 with
        | false =>
          have HQ := Lib.hid (com_no HQ10.out.1 (by rw [HTF.out]; exact hb4))
          go_wp2
          go_meet
          refine ⟨by rw [HQ.out.2.1, HA16.out], ⟨HQ.out.1, by rw [HQ.out.2.1, HA16.out]; exact hab16⟩, ?_⟩
          rw [HQ.out.2.2]
          exact (by have h9 : { h1 with ex := .slice X m cc, nm := strOf (nmL l), cm := strOf [] } = { h1 with ex := .slice X m cc, nm := strOf (nmL l) } := by rw [HH1.out]; rfl
                    rw [h9]; exact T)
        | true =>
          have HB4 : Hid (bit (fB l) 16 = true) := by show _ = _; rw [HTF.out]; exact hb4
          obtain ⟨i0, hi, hz0, hz1, hz2⟩ := info_parts rbyte_info
          obtain ⟨r, hr9⟩ : ∃ r, l.drop a16 = r := ⟨_, rfl⟩
          obtain ⟨ad9, hA9⟩ : ∃ ad9, cutA (some ad) c a16 = some ad9 := by unfold cutA; split <;> exact ⟨_, rfl⟩
          have hs9 := run_slice_from (P := Try.prog) 23 5 Try.underlying23 hi hz1 (some ad) n c (j := a16) hab16
          rw [hA9] at hs9
          obtain ⟨n9, hn9⟩ : ∃ x, n - a16 = x := ⟨_, rfl⟩
          obtain ⟨d9, hd9⟩ : ∃ x, c - a16 = x := ⟨_, rfl⟩
          have hrr : RdI .u8 wc B (some ad9) n9 r := by rw [← hA9, ← hn9, ← hr9]; exact RdI.cutA T.S.rd hab16 hc
          rw [hn9, hd9] at hs9
          have hrl : r.length = n9 := hrr.1.symm
          have hn9d : n9 ≤ d9 ∧ n9 ≤ 1000000 ∧ a16 + n9 = n := by omega
          have htl := txR_len r
          obtain ⟨E9, hE9⟩ : ∃ x, (txR r).2.2 = x := ⟨_, rfl⟩
          obtain ⟨k9, hk9⟩ : ∃ x, (txR r).2.1 = x := ⟨_, rfl⟩
          obtain ⟨t9, ht9⟩ : ∃ x, (txR r).1 = x := ⟨_, rfl⟩
          have htx : ∀ W, RdI .u8 W B (some ad9) n9 r → Calls Try.prog 22 #[.slice (some ad9) n9 d9] W fun e w' => e = .returned (.tuple #[.string (strOf t9), .int .i64 (k9 : Int), .int .i64 E9]) ∧ w' = W := fun W h => by
            have := rtext_any W B n9 d9 ad9 r h (by omega) (by omega)
            unfold rtxv at this
            rw [hE9, hk9, ht9] at this
            exact this
          have HTX := Lib.hid (htx wc hrr)
          rw [hk9] at htl
          have hk9n : a16 + k9 ≤ n := by omega
          by_cases hE0 : E9 = 0
          · have HQ := Lib.hid (com_ok HQ10.out.1 HB4.out (by rw [HA16.out, hr9, hE9]; exact hE0))
            rw [HA16.out, hr9, hk9, ht9] at HQ
            subst hE0
            have r5 := T.H.cell (i := 8) (by omega)
            have f5 := T.H.frozen' (i := 8) (by omega)
            unfold hf at r5
            clear hi hz0 hz1 hz2 hr9 hA9 hn9 hd9 hE9 hk9 ht9 htx
            go_wp2_with fail
            refine HTX.out.mono ?_
            rintro E w7 ⟨rfl, hw7⟩; obtain rfl := hw7.symm
            go_wp2
            go_meet
            refine ⟨by rw [HQ.out.2.1]; go_num, ⟨HQ.out.1, by rw [HQ.out.2.1]; exact hk9n⟩, ?_⟩
            rw [HQ.out.2.2]
            exact T.set_ (i := 8) (by omega) _ (fun j hj => by rcases lt11 hj with rfl | rfl | rfl | rfl | rfl | rfl | rfl | rfl | rfl | rfl | rfl <;> rfl)
          · have hbad := com_bad HQ10.out.1 HB4.out (e := E9) (by rw [HA16.out, hr9, hE9]) hE0
            have HBAD := Lib.hid hbad
            clear hi hz0 hz1 hz2 hr9 hA9 hn9 hd9 hE9 hk9 ht9 htx hbad
            go_wp2_with fail
            refine HTX.out.mono ?_
            rintro E w7 ⟨rfl, hw7⟩; obtain rfl := hw7.symm
            have HQ : Hid (q12 l = E9) := by show _ = _; exact HBAD.out
            have r0 : wc.cell? ⟨R, 0, none⟩ = some (.bool false) := S.H.cell (i := 0) (by omega)
            have f0 := S.H.frozen' (i := 0) (by omega)
            have r1 : wc.cell? ⟨R, 1, none⟩ = some (.bool false) := S.H.cell (i := 1) (by omega)
            have f1 := S.H.frozen' (i := 1) (by omega)
            have r2 : wc.cell? ⟨R, 2, none⟩ = some (.int .u32 0) := S.H.cell (i := 2) (by omega)
            have f2 := S.H.frozen' (i := 2) (by omega)
            have r3 : wc.cell? ⟨R, 3, none⟩ = some (.int .u8 0) := S.H.cell (i := 3) (by omega)
            have f3 := S.H.frozen' (i := 3) (by omega)
            have r4 : wc.cell? ⟨R, 4, none⟩ = some (.int .u8 0) := S.H.cell (i := 4) (by omega)
            have f4 := S.H.frozen' (i := 4) (by omega)
            have r5 : wc.cell? ⟨R, 5, none⟩ = some (.slice none 0 0) := S.H.cell (i := 5) (by omega)
            have f5 := S.H.frozen' (i := 5) (by omega)
            have r6 : wc.cell? ⟨R, 6, none⟩ = some (.bool false) := S.H.cell (i := 6) (by omega)
            have f6 := S.H.frozen' (i := 6) (by omega)
            have r7 : wc.cell? ⟨R, 7, none⟩ = some (.string ByteArray.empty) := S.H.cell (i := 7) (by omega)
            have f7 := S.H.frozen' (i := 7) (by omega)
            have r8 : wc.cell? ⟨R, 8, none⟩ = some (.string ByteArray.empty) := S.H.cell (i := 8) (by omega)
            have f8 := S.H.frozen' (i := 8) (by omega)
            have r9 : wc.cell? ⟨R, 9, none⟩ = some (.bool false) := S.H.cell (i := 9) (by omega)
            have f9 := S.H.frozen' (i := 9) (by omega)
            have r10 : wc.cell? ⟨R, 10, none⟩ = some (.bool false) := S.H.cell (i := 10) (by omega)
            have f10 := S.H.frozen' (i := 10) (by omega)
            go_wp2_with ((with_reducible (show bodyPost _ _ _ _ _ _)); exact bodyPost_ret (results_hdr2 S.err.1 rfl rfl rfl) rfl (err_post S.err.2 HQ.out hE0))
      case rest =>
      clear T r10
      obtain ⟨rfl, HQ11, T⟩ := hcut
      have r1 : wc.cell? ⟨K, 1, none⟩ = some (.bool (bit F 2)) := by rw [← HE.out.2.2.2]; exact T.H.cell (i := 1) (by omega)
      obtain ⟨a2, ha2⟩ : ∃ a, b11 l = a := ⟨_, rfl⟩
      have HA2 := Lib.hid ha2
      have hab2 : a2 ≤ n := by have := HQ11.out.2; omega
      rw [ha2]
      clear ha2
      go_upto_if 156 with fail
      go_cut [9] (fun s wx => s = .int .i64 (b12 l) ∧ Hid (q12 l = 0) ∧ RT w wx B R (some ad) n l K { h1 with ex := .slice X m cc, nm := strOf (nmL l), cm := strOf (cmL l) } X m cc (exL l))
      case first =>
        have S := T.S
        cases hb4 : bit F 2 with
        | false =>
          have HQ := Lib.hid (sum_no HQ11.out.1 (by rw [HTF.out]; exact hb4))
          go_wp2
          go_meet
          exact ⟨by rw [HQ.out.2, HA2.out], HQ.out.1, T⟩
        | true =>
          have HB4 : Hid (bit (fB l) 2 = true) := by show _ = _; rw [HTF.out]; exact hb4
          by_cases hn2 : (n : Int) < a2 + 2
          · have hn3 : l.length < b11 l + 2 := by rw [← HN.out, HA2.out]; omega
            have HQ : Hid (q12 l = 5) := by show _ = _; exact sum_end HQ11.out.1 HB4.out hn3
            have r0 : wc.cell? ⟨R, 0, none⟩ = some (.bool false) := S.H.cell (i := 0) (by omega)
            have f0 := S.H.frozen' (i := 0) (by omega)
            have r1 : wc.cell? ⟨R, 1, none⟩ = some (.bool false) := S.H.cell (i := 1) (by omega)
            have f1 := S.H.frozen' (i := 1) (by omega)
            have r2 : wc.cell? ⟨R, 2, none⟩ = some (.int .u32 0) := S.H.cell (i := 2) (by omega)
            have f2 := S.H.frozen' (i := 2) (by omega)
            have r3 : wc.cell? ⟨R, 3, none⟩ = some (.int .u8 0) := S.H.cell (i := 3) (by omega)
            have f3 := S.H.frozen' (i := 3) (by omega)
            have r4 : wc.cell? ⟨R, 4, none⟩ = some (.int .u8 0) := S.H.cell (i := 4) (by omega)
            have f4 := S.H.frozen' (i := 4) (by omega)
            have r5 : wc.cell? ⟨R, 5, none⟩ = some (.slice none 0 0) := S.H.cell (i := 5) (by omega)
            have f5 := S.H.frozen' (i := 5) (by omega)
            have r6 : wc.cell? ⟨R, 6, none⟩ = some (.bool false) := S.H.cell (i := 6) (by omega)
            have f6 := S.H.frozen' (i := 6) (by omega)
            have r7 : wc.cell? ⟨R, 7, none⟩ = some (.string ByteArray.empty) := S.H.cell (i := 7) (by omega)
            have f7 := S.H.frozen' (i := 7) (by omega)
            have r8 : wc.cell? ⟨R, 8, none⟩ = some (.string ByteArray.empty) := S.H.cell (i := 8) (by omega)
            have f8 := S.H.frozen' (i := 8) (by omega)
            have r9 : wc.cell? ⟨R, 9, none⟩ = some (.bool false) := S.H.cell (i := 9) (by omega)
            have f9 := S.H.frozen' (i := 9) (by omega)
            have r10 : wc.cell? ⟨R, 10, none⟩ = some (.bool false) := S.H.cell (i := 10) (by omega)
            have f10 := S.H.frozen' (i := 10) (by omega)
            go_wp2_with ((with_reducible (show bodyPost _ _ _ _ _ _)); exact bodyPost_ret (results_hdr2 S.err.1 rfl rfl rfl) rfl (err_post S.err.2 HQ.out (by decide)))
          have hn3 : b11 l + 2 ≤ l.length := by rw [← HN.out, HA2.out]; omega
          have HN3 := Lib.hid hn3
          clear hn3
          obtain ⟨i0, hi, hz0, hz1, hz2⟩ := info_parts rbyte_info
          obtain ⟨A5, hA5⟩ : ∃ A5, cutA (some ad) c a2 = A5 := ⟨_, rfl⟩
          obtain ⟨d5, hd5⟩ : ∃ d5, c - a2 = d5 := ⟨_, rfl⟩
          have hs1 : ∀ W, (Instr.slice 23 (.slice (some ad) n c) (some (.int .i64 (a2 : Int))) (some (.int .i64 ((a2 : Int) + 2))) none).run Try.prog W = .ok (.slice A5 2 d5) W := fun W => by
            have := run_slice_mid (P := Try.prog) 23 5 Try.underlying23 hi hz1 (some ad) n c (a := a2) (b := a2 + 2) (by omega) (by omega) W
            rw [hA5, hd5, show a2 + 2 - a2 = 2 by omega] at this
            exact this
          have hs2 := run_slice_to (P := Try.prog) 23 5 Try.underlying23 hi hz1 (some ad) n c (j := a2) (by omega)
          have hr5 : RdI .u8 wc B A5 2 ((l.drop a2).take 2) := hA5 ▸ rd_mid T.S.rd (by omega) hc
          have hr6 : RdI .u8 wc B (some ad) a2 (l.take a2) := RdI.pre T.S.rd hab2
          clear hi hz0 hz1 hz2 hA5 hd5
          obtain ⟨y, hy⟩ : ∃ y, leI ((l.drop a2).take 2) = y := ⟨_, rfl⟩
          have hcr := cmpI_bd (crTo_bd (x := cmpI 0) (l := l.take a2) (cmpI_bd (by omega)) (ix_mem_bd (take_bd hb _)) a2)
          obtain ⟨cv, hcv⟩ : ∃ cv, cmpI (crTo (cmpI 0) (l.take a2) a2) = cv := ⟨_, rfl⟩
          have HCV : Hid (crcV l = cv % 65536) := by show _ = _; unfold crcV; rw [HA2.out, hcv]
          rw [hcv] at hcr
          have HY : Hid (leI ((l.drop (b11 l)).take 2) = y) := by show _ = _; rw [HA2.out]; exact hy
          have HNUM : Hid (∀ q, Calls Try.prog 21 #[.slice A5 2 d5] (wc.drewN q) fun e w' => e = .returned (.int .i64 y) ∧ w' = wc.drewN q) := fun q => by
            have := rnum_any (wc.drewN q) B 2 d5 A5 _ (hr5.drewN q) (by omega) (take_bd (drop_bd hb a2) 2)
            rw [hy] at this
            exact this
          have HCRC : Hid (∀ q, Calls Try.prog 23 #[.int .u32 0, .slice (some ad) a2 c] (wc.drewN q) fun e w' => e = .returned (.int .u32 cv) ∧ w' = wc.drewN q) := fun q => by
            have := rcrc_any 0 (some ad) a2 c B (l.take a2) (wc.drewN q) (hr6.drewN q) (ix_mem_bd (take_bd hb _)) (by omega) (by omega)
            rw [hcv] at this
            exact this.mono fun _ _ h => ⟨h.1, h.2.symm⟩
          clear hy hcv
          obtain ⟨v, hv⟩ : ∃ v, cv % 65536 = v := ⟨_, rfl⟩
          have hvB : 0 ≤ v ∧ v < 65536 := by omega
          rw [hv] at HCV
          have hnd := (show ¬ (n : Int) < (a2 : Int) + 2 from hn2)
          have e1 : (IntKind.i64.wrap ((a2 : Int) + 2)) = (a2 : Int) + 2 := IntWalk.i64_in _ (by omega)
          have e2 : cv.tmod 65536 = v := by rw [Int.tmod_eq_emod_of_nonneg hcr.1]; exact hv
          have haI : (0 : Int) ≤ a2 ∧ (a2 : Int) + 2 ≤ n ∧ (n : Int) ≤ 1000000 := by omega
          by_cases hyv : y = v
          · have HQ := Lib.hid (sum_ok HQ11.out.1 HB4.out HN3.out (by rw [HY.out, HCV.out]; exact hyv))
            rw [HA2.out] at HQ
            subst hyv
            go_wp2_with fail
            go_quiet ((first | (go_at_call 21; exact Calls.quiet_of_same (HNUM.out _)) | (go_at_call 23; exact Calls.quiet_of_same (HCRC.out _))))
            go_wp2
            go_meet
            exact ⟨by rw [HQ.out.2]; go_num, HQ.out.1, T.drewN _⟩
          · have HBAD := Lib.hid (sum_bad HQ11.out.1 HB4.out HN3.out (by rw [HY.out, HCV.out]; exact hyv))
            have hyB : (y != v) = true := by simpa using hyv
            go_wp2_with fail
            go_quiet ((first | (go_at_call 21; exact Calls.quiet_of_same (HNUM.out _)) | (go_at_call 23; exact Calls.quiet_of_same (HCRC.out _))))
            replace S := S.drewN nq
            clear hr5 hr6 HNUM HCRC T r1
            revert S
            generalize wc.drewN nq = wc
            intro S
            have HQ : Hid (q12 l = 4) := by show _ = _; exact HBAD.out
            have r0 : wc.cell? ⟨R, 0, none⟩ = some (.bool false) := S.H.cell (i := 0) (by omega)
            have f0 := S.H.frozen' (i := 0) (by omega)
            have r1 : wc.cell? ⟨R, 1, none⟩ = some (.bool false) := S.H.cell (i := 1) (by omega)
            have f1 := S.H.frozen' (i := 1) (by omega)
            have r2 : wc.cell? ⟨R, 2, none⟩ = some (.int .u32 0) := S.H.cell (i := 2) (by omega)
            have f2 := S.H.frozen' (i := 2) (by omega)
            have r3 : wc.cell? ⟨R, 3, none⟩ = some (.int .u8 0) := S.H.cell (i := 3) (by omega)
            have f3 := S.H.frozen' (i := 3) (by omega)
            have r4 : wc.cell? ⟨R, 4, none⟩ = some (.int .u8 0) := S.H.cell (i := 4) (by omega)
            have f4 := S.H.frozen' (i := 4) (by omega)
            have r5 : wc.cell? ⟨R, 5, none⟩ = some (.slice none 0 0) := S.H.cell (i := 5) (by omega)
            have f5 := S.H.frozen' (i := 5) (by omega)
            have r6 : wc.cell? ⟨R, 6, none⟩ = some (.bool false) := S.H.cell (i := 6) (by omega)
            have f6 := S.H.frozen' (i := 6) (by omega)
            have r7 : wc.cell? ⟨R, 7, none⟩ = some (.string ByteArray.empty) := S.H.cell (i := 7) (by omega)
            have f7 := S.H.frozen' (i := 7) (by omega)
            have r8 : wc.cell? ⟨R, 8, none⟩ = some (.string ByteArray.empty) := S.H.cell (i := 8) (by omega)
            have f8 := S.H.frozen' (i := 8) (by omega)
            have r9 : wc.cell? ⟨R, 9, none⟩ = some (.bool false) := S.H.cell (i := 9) (by omega)
            have f9 := S.H.frozen' (i := 9) (by omega)
            have r10 : wc.cell? ⟨R, 10, none⟩ = some (.bool false) := S.H.cell (i := 10) (by omega)
            have f10 := S.H.frozen' (i := 10) (by omega)
            go_wp2_with ((with_reducible (show bodyPost _ _ _ _ _ _)); exact bodyPost_ret (results_hdr2 S.err.1 rfl rfl rfl) rfl (err_post S.err.2 HQ.out (by decide)))
      case rest =>
      clear T r1
      obtain ⟨rfl, HQ12, T⟩ := hcut
      have k0 : wc.cell? ⟨K, 0, none⟩ = some (.bool h1.tx) := T.H.cell (i := 0) (by omega)
      have k1 : wc.cell? ⟨K, 1, none⟩ = some (.bool h1.sm) := T.H.cell (i := 1) (by omega)
      have k2 : wc.cell? ⟨K, 2, none⟩ = some (.int .u32 h1.tm) := T.H.cell (i := 2) (by omega)
      have k3 : wc.cell? ⟨K, 3, none⟩ = some (.int .u8 h1.fl) := T.H.cell (i := 3) (by omega)
      have k4 : wc.cell? ⟨K, 4, none⟩ = some (.int .u8 h1.sy) := T.H.cell (i := 4) (by omega)
      have k5 : wc.cell? ⟨K, 5, none⟩ = some (.slice X m cc) := T.H.cell (i := 5) (by omega)
      have k6 : wc.cell? ⟨K, 6, none⟩ = some (.bool h1.hE) := T.H.cell (i := 6) (by omega)
      have k7 : wc.cell? ⟨K, 7, none⟩ = some (.string (strOf (nmL l))) := T.H.cell (i := 7) (by omega)
      have k8 : wc.cell? ⟨K, 8, none⟩ = some (.string (strOf (cmL l))) := T.H.cell (i := 8) (by omega)
      have k9 : wc.cell? ⟨K, 9, none⟩ = some (.bool h1.hN) := T.H.cell (i := 9) (by omega)
      have k10 : wc.cell? ⟨K, 10, none⟩ = some (.bool h1.hC) := T.H.cell (i := 10) (by omega)
      have r0 : wc.cell? ⟨R, 0, none⟩ = some (.bool false) := T.S.H.cell (i := 0) (by omega)
      have f0 := T.S.H.frozen' (i := 0) (by omega)
      have r1 : wc.cell? ⟨R, 1, none⟩ = some (.bool false) := T.S.H.cell (i := 1) (by omega)
      have f1 := T.S.H.frozen' (i := 1) (by omega)
      have r2 : wc.cell? ⟨R, 2, none⟩ = some (.int .u32 0) := T.S.H.cell (i := 2) (by omega)
      have f2 := T.S.H.frozen' (i := 2) (by omega)
      have r3 : wc.cell? ⟨R, 3, none⟩ = some (.int .u8 0) := T.S.H.cell (i := 3) (by omega)
      have f3 := T.S.H.frozen' (i := 3) (by omega)
      have r4 : wc.cell? ⟨R, 4, none⟩ = some (.int .u8 0) := T.S.H.cell (i := 4) (by omega)
      have f4 := T.S.H.frozen' (i := 4) (by omega)
      have r5 : wc.cell? ⟨R, 5, none⟩ = some (.slice none 0 0) := T.S.H.cell (i := 5) (by omega)
      have f5 := T.S.H.frozen' (i := 5) (by omega)
      have r6 : wc.cell? ⟨R, 6, none⟩ = some (.bool false) := T.S.H.cell (i := 6) (by omega)
      have f6 := T.S.H.frozen' (i := 6) (by omega)
      have r7 : wc.cell? ⟨R, 7, none⟩ = some (.string ByteArray.empty) := T.S.H.cell (i := 7) (by omega)
      have f7 := T.S.H.frozen' (i := 7) (by omega)
      have r8 : wc.cell? ⟨R, 8, none⟩ = some (.string ByteArray.empty) := T.S.H.cell (i := 8) (by omega)
      have f8 := T.S.H.frozen' (i := 8) (by omega)
      have r9 : wc.cell? ⟨R, 9, none⟩ = some (.bool false) := T.S.H.cell (i := 9) (by omega)
      have f9 := T.S.H.frozen' (i := 9) (by omega)
      have r10 : wc.cell? ⟨R, 10, none⟩ = some (.bool false) := T.S.H.cell (i := 10) (by omega)
      have f10 := T.S.H.frozen' (i := 10) (by omega)
      have hKR : ¬ K = R := by have := T.lt; omega
      have hRK : ¬ R = K := by have := T.lt; omega
      have hm : m ≤ cc ∧ cc ≤ maxLen := by
        rcases T.own.2 with ⟨_, h1, h2⟩ | ⟨_, _, _, _, _, h1, h2, _⟩
        · omega
        · exact ⟨h1, h2⟩
      have HHM := Lib.hid hm
      clear hm
      have HFin : Hid ({ h1 with ex := .slice X m cc, nm := strOf (nmL l), cm := strOf (cmL l) } = outH l (.slice X m cc)) := by
        show _ = _
        unfold outH
        rw [HH1.out, HT.out.2.2.1, HT.out.2.2.2.1, HT.out.2.2.2.2.1, HT.out.2.2.2.2.2, HF.out, HTM.out, HX8.out, HX9.out]
      go_wp2_with ((with_reducible (show bodyPost _ _ _ _ _ _)); exact bodyPost_ret (results_hdr2 (T.fin).1 rfl rfl rfl) rfl ⟨X, m, cc, exL l, HHM.out.1, HHM.out.2, (T.fin).2.2, (T.fin).2.1, .inl ⟨HQ12.out, rfl, by rw [← HFin.out]; rfl⟩⟩)
end Go.Proofs.Ytgdmhicfeipbjaa
