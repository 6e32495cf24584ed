/-
  The walk of gzip.PrintHeader.
-/
import Derived.Test.YtkmpohgbbfhciaaGreatHdM
import Derived.Test.YtkmpohgbbfhciaaGreatCrc
import Derived.Deep.DeepCutAuto
import Derived.BigFrame
import Derived.Laws.BitsAllLaws
import Derived.BigRegion
import Derived.Handy
namespace Go.Proofs.YtkmpohgbbfhciaaGreat
open Go.RowKit
set_option linter.unusedVariables false

/-- 'append(b, s...)', s a string -/
theorem run_app_str {P : Program} {w : World} (b0 : Nat) (t u ty e : TypeId) (i : TypeInfo) (ht : P.underlying t = some (.slice e)) (hu : P.underlying u = some .string) (hi : P.info? e = some i) (hz : i.zero = some (.int .u8 0))
    (hsize : i.size = 1) (hby : i.bytes = 1) {A : Option Addr} {n c : Nat} {l : List Int} (hown : OwnI .u8 w b0 e A n c l) (l' : List Int) (hb : ∀ x ∈ l', 0 ≤ x ∧ x < 256) (h63 : n + l'.length ≤ 1000000000000) (hbase : b0 ≤ w.heap.size) :
    ∃ A2 c2 w2, (Builtin.append_ #[t, u] ty #[.slice A n c, .string (strOf l')]).run P w = .ok (.slice A2 (n + l'.length) c2) w2 ∧ OwnI .u8 w2 b0 e A2 (n + l'.length) c2 (l ++ l') ∧ w.grownBy w2 (blkOf A) := by
  have hs := strOf_size l'
  obtain ⟨v', w', hr, h2, h3, _⟩ := Lib.run_append_own_string (P := P) w b0 t u ty e i ht hu hi hz hsize hby _ n _ hown.2.owns (strOf l') (by rw [hs]; unfold maxLen; omega) (by rw [hs]; omega) hbase
  rw [hs] at h2
  obtain ⟨A2, c2, rfl, ho, hbk⟩ := own_of_owns (f := fun i => .int .u8 (ix (l ++ l') i)) h2 (fun j hj => by
    rw [Nat.mul_one] at hj
    have h1 := hown.1
    rw [ix_append]
    by_cases h' : j < l.length
    · rw [if_pos h', List.getElem?_append_left (by simp; omega)]
      simp [h1, h']
    · rw [if_neg h', List.getElem?_append_right (by simp; omega)]
      have hj2 : j - l.length < l'.length := by omega
      simp only [Lib.strCells, strOf_data, List.map_map, List.length_map, List.length_range, Nat.mul_one, List.getElem?_map]
      rw [h1]
      have hx := hb (ix l' (j - l.length)) (by unfold ix; rw [List.getD_eq_getElem?_getD, List.getElem?_eq_getElem hj2]; exact List.getElem_mem _)
      unfold ix at hx ⊢
      rw [List.getD_eq_getElem?_getD, List.getElem?_eq_getElem hj2] at hx
      rw [List.getD_eq_getElem?_getD, List.getElem?_eq_getElem hj2]
      simp only [Option.getD_some, Option.map_some, Function.comp] at hx ⊢
      congr 2
      have := hx.1
      have := hx.2
      simp
      omega)
  have hbk0 : (Value.slice A n c).ownBlock = blkOf A := by cases A <;> rfl
  exact ⟨A2, c2, w', hr, ⟨by rw [List.length_append, ← hown.1], ho⟩, hbk0 ▸ h3⟩
theorem wpList_app_str {P : Program} {w : World} {ops : Array Oper} {rest : List Oper} {o : Oper} {a : Act} {Q : Exit → Act → World → Prop} (b0 : Nat) (e : TypeId) (i : TypeInfo) (hgd : Region.wanted o (yielded ops a.tmps) = true) (s x : Operand) (t u : TypeId)
    (ho : o.op = .call { callee := .builtin .append, args := #[s, x], argTypes := #[t, u] }) (ht : P.underlying t = some (.slice e)) (hu : P.underlying u = some .string) (hi : P.info? e = some i) (hz : i.zero = some (.int .u8 0))
    (hsize : i.size = 1) (hby : i.bytes = 1) {A : Option Addr} {n c : Nat} {l : List Int} (hs : a.eval s = .slice A n c) (hown : OwnI .u8 w b0 e A n c l)
    (l' : List Int) (hx : a.eval x = .string (strOf l')) (hb : ∀ x ∈ l', 0 ≤ x ∧ x < 256) (h63 : n + l'.length ≤ 1000000000000) (hbase : b0 ≤ w.heap.size)
    (h : ∀ A2 c2 w2, OwnI .u8 w2 b0 e A2 (n + l'.length) c2 (l ++ l') → w.grownBy w2 (blkOf A) → wpList P ops Q rest (a.put o.dst (.slice A2 (n + l'.length) c2)) w2) : wpList P ops Q (o :: rest) a w := by
  refine wpList_step fun K hK => ?_
  rw [if_pos hgd]
  obtain ⟨A2, c2, w2, hrun, h2, h3⟩ := run_app_str (P := P) (w := w) b0 t u o.type e i ht hu hi hz hsize hby hown l' hb h63 hbase
  unfold Oper.wp execOp
  simp only [ho, resolve, invoke, builtin, Sem.run_bind, Sem.run_pure, Result.andThen_ok, List.map_toArray, List.map_cons, List.map_nil, hs, hx, hrun]
  exact hK _ _ (h A2 c2 w2 h2 h3)

theorem RdI.grown_ {w w' : World} {B n : Nat} {A : Option Addr} {l : List Int} {row : Option Nat} (h : RdI .u8 w B A n l) (hg : w.grownBy w' row) (hB : B ≤ w.heap.size) (hr : ∀ k, row = some k → ∀ ad, A = some ad → ad.block ≠ k) : RdI .u8 w' B A n l :=
  ((Chg.refl w (fun k => row = some k)).grown hg (fun k hk => .inl hk)).rdI h hB (fun _ ad had hk => hr _ hk ad had rfl)
/-- a header's numbers and texts -/
structure HP where
  tx : Bool
  sm : Bool
  tm : Int
  fl : Int
  sy : Int
  xl : List Int
  hE : Bool
  nl : List Int
  cl : List Int
  hN : Bool
  hC : Bool
def HP.v (h : HP) (ex : Value) : HV := ⟨h.tx, h.sm, h.tm, h.fl, h.sy, ex, h.hE, strOf h.nl, strOf h.cl, h.hN, h.hC⟩
def HP.F (h : HP) : Int := b2i h.tx 1 + b2i h.sm 2 + b2i h.hE 4 + b2i h.hN 8 + b2i h.hC 16
/-- may it be? -/
def HP.ok (h : HP) : Bool := !(decide (65535 < h.xl.length) || (!h.hE && decide (0 < h.xl.length)) || !gdS h.nl h.hN || !gdS h.cl h.hC)
structure HP.bd (h : HP) : Prop where
  tm : 0 ≤ h.tm ∧ h.tm < 4294967296
  fl : 0 ≤ h.fl ∧ h.fl < 256
  sy : 0 ≤ h.sy ∧ h.sy < 256
  xl : ∀ x ∈ h.xl, 0 ≤ x ∧ x < 256
  nl : ∀ x ∈ h.nl, 0 ≤ x ∧ x < 256
  cl : ∀ x ∈ h.cl, 0 ≤ x ∧ x < 256
/-- what is printed -/
def HP.p0 (h : HP) : List Int := [31, 139, 8, h.F] ++ leB 4 h.tm ++ [h.fl, h.sy]
def HP.p1 (h : HP) : List Int := h.p0 ++ if h.hE then leB 2 h.xl.length ++ h.xl else []
def HP.p2 (h : HP) : List Int := h.p1 ++ if h.hN then h.nl ++ [0] else []
def HP.p3 (h : HP) : List Int := h.p2 ++ if h.hC then h.cl ++ [0] else []
def HP.p4 (h : HP) : List Int := h.p3 ++ if h.sm then leB 2 (cmpI (crTo (cmpI 0) h.p3 h.p3.length)) else []
theorem or_flags (a b c d e : Bool) : bits .or .u8 (bits .or .u8 (bits .or .u8 (bits .or .u8 (b2i a 1) (b2i b 2)) (b2i c 4)) (b2i d 8)) (b2i e 16) = b2i a 1 + b2i b 2 + b2i c 4 + b2i d 8 + b2i e 16 := by
  cases a <;> cases b <;> cases c <;> cases d <;> cases e <;> rfl

/-- PrintHeader's memory between two steps -/
structure PW (w0 w : World) (B H : Nat) (h : HP) (X : Option Addr) (m cc : Nat) (A : Option Addr) (n c : Nat) (L : List Int) : Prop where
  hd : Ar w H 11 (hf (h.v (.slice X m cc)))
  x : RdI .u8 w B X m h.xl
  b : Below H w0 w
  eq : H = w0.heap.size
  BH : B ≤ H
  own : OwnI .u8 w (H + 1) 5 A n c L
section
variable {w0 w w' : World} {B H m cc n c : Nat} {h : HP} {X A : Option Addr} {L : List Int}
theorem PW.drewN (s : PW w0 w B H h X m cc A n c L) (q : Nat) : PW w0 (w.drewN q) B H h X m cc A n c L := ⟨s.hd.drewN q, s.x.drewN q, below_drewN s.b q, s.eq, s.BH, s.own.drewN q⟩
theorem PW.below (s : PW w0 w B H h X m cc A n c L) (hb : Below w.heap.size w w') : PW w0 w' B H h X m cc A n c L :=
  ⟨s.hd.keeps hb, s.x.keep fun p hp => hb.cell (by have := s.hd.lt; have := s.BH; omega), Below.trans s.b (hb.mono (by have := s.hd.lt; omega)), s.eq, s.BH, s.own.keeps hb⟩
theorem PW.grown {A' : Option Addr} {n' c' : Nat} {L' : List Int} (s : PW w0 w B H h X m cc A n c L) (hg : w.grownBy w' (blkOf A)) (ho : OwnI .u8 w' (H + 1) 5 A' n' c' L') : PW w0 w' B H h X m cc A' n' c' L' := by
  have hlo : ∀ k, blkOf A = some k → H + 1 ≤ k := fun k hk => (s.own.2.lt hk).1
  have hl := s.hd.lt
  have hC : Chg w w' (fun k => blkOf A = some k) := (Chg.refl w _).grown hg (fun k hk => .inl hk)
  have hbb : Below (H + 1) w w' := hC.below (fun k hk => by have := hlo k hk; omega) (by omega)
  exact ⟨hC.ar s.hd fun h => by have := hlo _ h; omega, s.x.keep fun p hp => hbb.cell (by have := s.BH; omega), Below.trans s.b (hbb.mono (by omega)), s.eq, s.BH, ho⟩
theorem PW.lt (s : PW w0 w B H h X m cc A n c L) : H < w.heap.size := s.hd.lt
theorem PW.ownlit (s : PW w0 w B H h X m cc A n c L) {Z : Nat} (hZ : Z = w.heap.size) (l : List Int) (hl : l.length ≤ maxLen) : PW w0 (w.alloc (.cells (l.map (Value.int .u8)).toArray 5)) B H h X m cc (some ⟨Z, 0, none⟩) l.length l.length l :=
  have h2 := s.below (w' := w.alloc (.cells (l.map (Value.int .u8)).toArray 5)) ((Below.refl _ _).alloc (Nat.le_refl _) _)
  ⟨h2.hd, h2.x, h2.b, s.eq, s.BH, OwnI.lit hZ l _ (by have := s.hd.lt; omega) hl⟩
theorem PW.lit (s : PW w0 w B H h X m cc A n c L) (o : Obj) : PW w0 (w.alloc o) B H h X m cc A n c L := s.below ((Below.refl _ _).alloc (Nat.le_refl _) _)
theorem PW.three (s : PW w0 w B H h X m cc A n c L) : w.cell? ⟨H, 2, none⟩ = some (.int .u32 h.tm) ∧ w.cell? ⟨H, 3, none⟩ = some (.int .u8 h.fl) ∧ w.cell? ⟨H, 4, none⟩ = some (.int .u8 h.sy) := ⟨s.hd.cell (i := 2) (by omega), s.hd.cell (i := 3) (by omega), s.hd.cell (i := 4) (by omega)⟩
theorem PW.exx (s : PW w0 w B H h X m cc A n c L) : w.cell? ⟨H, 5, none⟩ = some (.slice X m cc) := s.hd.cell (i := 5) (by omega)
theorem PW.drew (s : PW w0 w B H h X m cc A n c L) : PW w0 w.drew B H h X m cc A n c L := s.drewN 1
end
def PrintPost (w : World) (h : HP) (E : Ending) (w' : World) : Prop :=
  (h.ok = true ∧ ∃ A n c, E = .returned (.tuple #[.slice A n c, .int .i64 0]) ∧ OwnI .u8 w' w.heap.size 5 A n c h.p4 ∧ Below w.heap.size w w') ∨
  (h.ok = false ∧ E = .returned (.tuple #[.slice none 0 0, .int .i64 2]) ∧ Below w.heap.size w w')

theorem app_bd {a b : List Int} (ha : ∀ x ∈ a, 0 ≤ x ∧ x < 256) (hb : ∀ x ∈ b, 0 ≤ x ∧ x < 256) : ∀ x ∈ a ++ b, 0 ≤ x ∧ x < 256 := fun x hx => (List.mem_append.1 hx).elim (ha x) (hb x)
theorem F_bd (h : HP) : 0 ≤ h.F ∧ h.F < 32 := by
  unfold HP.F b2i
  cases h.tx <;> cases h.sm <;> cases h.hE <;> cases h.hN <;> cases h.hC <;> decide
theorem p0_bd (h : HP) (hb : h.bd) : ∀ x ∈ h.p0, 0 ≤ x ∧ x < 256 := by
  unfold HP.p0
  refine app_bd (app_bd ?_ (leB_bd _ _)) ?_
  · have := F_bd h
    intro x hx
    simp at hx
    rcases hx with rfl | rfl | rfl | rfl <;> omega
  · have := hb.fl
    have := hb.sy
    intro x hx
    simp at hx
    rcases hx with rfl | rfl <;> omega
theorem one0_bd : ∀ x ∈ [(0 : Int)], 0 ≤ x ∧ x < 256 := fun x hx => by simp at hx; omega
theorem nil_bd : ∀ x ∈ ([] : List Int), 0 ≤ x ∧ x < 256 := fun x hx => by cases hx
theorem p3_bd (h : HP) (hb : h.bd) : ∀ x ∈ h.p3, 0 ≤ x ∧ x < 256 := by
  unfold HP.p3 HP.p2 HP.p1
  refine app_bd (app_bd (app_bd (p0_bd h hb) ?_) ?_) ?_
  · split
    · exact app_bd (leB_bd _ _) hb.xl
    · exact nil_bd
  · split
    · exact app_bd hb.nl one0_bd
    · exact nil_bd
  · split
    · exact app_bd hb.cl one0_bd
    · exact nil_bd

set_option maxRecDepth 100000 in
set_option maxHeartbeats 4000000 in
theorem print_any (w : World) (B : Nat) (h : HP) (X : Option Addr) (m cc : Nat) (hx : RdI .u8 w B X m h.xl) (hB : B ≤ w.heap.size) (hb : h.bd) (hxl : m ≤ 100000) (hnl : h.nl.length ≤ 100000) (hcl : h.cl.length ≤ 100000) :
    Calls Tryz.prog 14 #[hagg (h.v (.slice X m cc))] w (PrintPost w h) := by
  obtain ⟨tx, sm, tm, fl, sy, xl, hE, nl, cl, hN, hC⟩ := h
  unfold hagg HP.v
  dsimp only at hx hnl hcl ⊢
  have HX := Lib.hid hx.1
  have T0 : PW w (w.alloc (.cells #[.bool tx, .bool sm, .int .u32 tm, .int .u8 fl, .int .u8 sy, .slice X m cc, .bool hE, .string (strOf nl), .string (strOf cl), .bool hN, .bool hC] 42)) B w.heap.size ⟨tx, sm, tm, fl, sy, xl, hE, nl, cl, hN, hC⟩ X m cc none 0 0 [] :=
    ⟨Ar.new' rfl _ _ rfl (fun i hi => by
      rcases lt11 hi with rfl | rfl | rfl | rfl | rfl | rfl | rfl | rfl | rfl | rfl | rfl
      all_goals rfl), hx.alloc hB _, (Below.refl _ _).alloc (Nat.le_refl _) _, rfl, hB, OwnI.nil_⟩
  have hmI : (0 : Int) ≤ m ∧ (m : Int) ≤ 100000 := by omega
  go_enter Tryz.func14, Tryz.ntmps14
  go_upto_region 1 with fail
  revert T0
  generalize w.alloc (.cells #[.bool tx, .bool sm, .int .u32 tm, .int .u8 fl, .int .u8 sy, .slice X m cc, .bool hE, .string (strOf nl), .string (strOf cl), .bool hN, .bool hC] 42) = w1
  intro T0
  obtain ⟨H, hH⟩ : ∃ H, w.heap.size = H := ⟨_, rfl⟩
  rw [hH] at T0 ⊢
  clear hH
  have hbn := hb.nl
  have hbc := hb.cl
  have hbx := hb.xl
  have hbt := hb.tm
  have hnl' : nl.length ≤ 100000000 := by omega
  have hcl' : cl.length ≤ 100000000 := by omega
  dsimp only at hbn hbc hbx hbt
  have HM := Lib.hid (T0.eq)
  obtain ⟨okv, hokv⟩ : ∃ o, HP.ok ⟨tx, sm, tm, fl, sy, xl, hE, nl, cl, hN, hC⟩ = o := ⟨_, rfl⟩
  have HOK := Lib.hid hokv
  clear hokv
  go_cut [35] (fun s wx => s = .bool (!okv) ∧ wx = w1)
  case first =>
    have k5 : w1.cell? ⟨H, 5, none⟩ = some (.slice X m cc) := T0.hd.cell (i := 5) (by omega)
    have k6 : w1.cell? ⟨H, 6, none⟩ = some (.bool hE) := T0.hd.cell (i := 6) (by omega)
    have k7 : w1.cell? ⟨H, 7, none⟩ = some (.string (strOf nl)) := T0.hd.cell (i := 7) (by omega)
    have k8 : w1.cell? ⟨H, 8, none⟩ = some (.string (strOf cl)) := T0.hd.cell (i := 8) (by omega)
    have k9 : w1.cell? ⟨H, 9, none⟩ = some (.bool hN) := T0.hd.cell (i := 9) (by omega)
    have k10 : w1.cell? ⟨H, 10, none⟩ = some (.bool hC) := T0.hd.cell (i := 10) (by omega)
    by_cases h1 : 65535 < m
    · have h1I : (65535 : Int) < m := by omega
      have HO : Hid (true = !okv) := by show _ = _; rw [← HOK.out]; unfold HP.ok; dsimp only; rw [← HX.out]; simp [h1]
      go_wp2
      go_meet
      exact ⟨congrArg Value.bool HO.out, rfl⟩
    · have h1I : ¬ (65535 : Int) < m := by omega
      have hcase : (hE = false ∧ 0 < m) ∨ (hE = false ∧ m = 0) ∨ hE = true := by cases hE <;> simp <;> omega
      rcases hcase with ⟨rfl, h2⟩ | ⟨rfl, h2⟩ | rfl
      · have h2I : (0 : Int) < m := by omega
        have HO : Hid (true = !okv) := by show _ = _; rw [← HOK.out]; unfold HP.ok; dsimp only; rw [← HX.out]; simp [h2]
        go_wp2
        go_meet
        exact ⟨congrArg Value.bool HO.out, rfl⟩
      · cases hg1 : gdS nl hN with
        | false =>
          have HO : Hid (true = !okv) := by show _ = _; rw [← HOK.out]; unfold HP.ok; dsimp only; rw [← HX.out]; simp [hg1]
          subst h2
          go_wp2_with (go_at_call 24; ((first | (with_reducible refine (good_any _ nl hN hbn hnl').mono ?_) | (with_reducible refine (good_any _ cl hC hbc hcl').mono ?_)); rintro e w2 ⟨rfl, rfl⟩))
          go_meet
          exact ⟨congrArg Value.bool HO.out, rfl⟩
        | true =>
          cases hg2 : gdS cl hC with
          | false =>
            have HO : Hid (true = !okv) := by show _ = _; rw [← HOK.out]; unfold HP.ok; dsimp only; rw [← HX.out]; simp [hg2]
            subst h2
            go_wp2_with (go_at_call 24; ((first | (with_reducible refine (good_any _ nl hN hbn hnl').mono ?_) | (with_reducible refine (good_any _ cl hC hbc hcl').mono ?_)); rintro e w2 ⟨rfl, rfl⟩))
            go_meet
            exact ⟨congrArg Value.bool HO.out, rfl⟩
          | true =>
            have HO : Hid (false = !okv) := by show _ = _; rw [← HOK.out]; unfold HP.ok; dsimp only; rw [← HX.out]; simp [hg1, hg2]; omega
            subst h2
            go_wp2_with (go_at_call 24; ((first | (with_reducible refine (good_any _ nl hN hbn hnl').mono ?_) | (with_reducible refine (good_any _ cl hC hbc hcl').mono ?_)); rintro e w2 ⟨rfl, rfl⟩))
            go_meet
            exact ⟨congrArg Value.bool HO.out, rfl⟩
      · cases hg1 : gdS nl hN with
        | false =>
          have HO : Hid (true = !okv) := by show _ = _; rw [← HOK.out]; unfold HP.ok; dsimp only; rw [← HX.out]; simp [hg1]
          go_wp2_with (go_at_call 24; ((first | (with_reducible refine (good_any _ nl hN hbn hnl').mono ?_) | (with_reducible refine (good_any _ cl hC hbc hcl').mono ?_)); rintro e w2 ⟨rfl, rfl⟩))
          go_meet
          exact ⟨congrArg Value.bool HO.out, rfl⟩
        | true =>
          cases hg2 : gdS cl hC with
          | false =>
            have HO : Hid (true = !okv) := by show _ = _; rw [← HOK.out]; unfold HP.ok; dsimp only; rw [← HX.out]; simp [hg2]
            go_wp2_with (go_at_call 24; ((first | (with_reducible refine (good_any _ nl hN hbn hnl').mono ?_) | (with_reducible refine (good_any _ cl hC hbc hcl').mono ?_)); rintro e w2 ⟨rfl, rfl⟩))
            go_meet
            exact ⟨congrArg Value.bool HO.out, rfl⟩
          | true =>
            have HO : Hid (false = !okv) := by show _ = _; rw [← HOK.out]; unfold HP.ok; dsimp only; rw [← HX.out]; simp [hg1, hg2]; omega
            go_wp2_with (go_at_call 24; ((first | (with_reducible refine (good_any _ nl hN hbn hnl').mono ?_) | (with_reducible refine (good_any _ cl hC hbc hcl').mono ?_)); rintro e w2 ⟨rfl, rfl⟩))
            go_meet
            exact ⟨congrArg Value.bool HO.out, rfl⟩
  case rest =>
  obtain ⟨rfl, rfl⟩ := hcut
  cases okv with
  | false =>
    go_wp2_with fail
    go_returns
    exact .inr ⟨HOK.out, rfl, HM.out ▸ T0.b⟩
  | true =>
    go_upto_region 3 with fail
    have HF0 := Lib.hid (or_flags tx sm hE hN hC)
    obtain ⟨F, hF⟩ : ∃ F, b2i tx 1 + b2i sm 2 + b2i hE 4 + b2i hN 8 + b2i hC 16 = F := ⟨_, rfl⟩
    rw [hF] at HF0
    have HF := Lib.hid hF
    clear hF
    go_cut [4] (fun s wx => ∃ A c, s = .slice A 4 c ∧ PW w wx B H ⟨tx, sm, tm, fl, sy, xl, hE, nl, cl, hN, hC⟩ X m cc A 4 c [31, 139, 8, F])
    case first =>
      have k0 : wc.cell? ⟨H, 0, none⟩ = some (.bool tx) := T0.hd.cell (i := 0) (by omega)
      have k1 : wc.cell? ⟨H, 1, none⟩ = some (.bool sm) := T0.hd.cell (i := 1) (by omega)
      have k6 : wc.cell? ⟨H, 6, none⟩ = some (.bool hE) := T0.hd.cell (i := 6) (by omega)
      have k9 : wc.cell? ⟨H, 9, none⟩ = some (.bool hN) := T0.hd.cell (i := 9) (by omega)
      have k10 : wc.cell? ⟨H, 10, none⟩ = some (.bool hC) := T0.hd.cell (i := 10) (by omega)
      have hHlt := T0.lt
      go_region_held3 (fun w' => w'.cell? ⟨H, 0, none⟩ = some (.bool tx) ∧ w'.cell? ⟨H, 1, none⟩ = some (.bool sm) ∧ w'.cell? ⟨H, 6, none⟩ = some (.bool hE) ∧ w'.cell? ⟨H, 9, none⟩ = some (.bool hN) ∧ w'.cell? ⟨H, 10, none⟩ = some (.bool hC)) (first | exact ⟨k0, k1, k6, k9, k10⟩ | go_keep) (first | (go_at_call 25; (refine (mark_any _ _ _).mono ?_); rintro e w2 ⟨rfl, rfl⟩))
      go_wp2
      go_meet
      refine ⟨_, 4, rfl, ?_⟩
      rw [HF0.out]
      exact (T0.ownlit rfl [31, 139, 8, F] (by unfold maxLen; simp)).drewN 1
    case rest =>
    clear T0
    obtain ⟨A, c, rfl, T⟩ := hcut
    obtain ⟨i0, hi, hz0, hz1, hz2⟩ := info_parts rbyte_info
    have Hi := Lib.hid hi
    have Hz0 := Lib.hid hz0
    have Hz1 := Lib.hid hz1
    have Hz2 := Lib.hid hz2
    clear hi hz0 hz1 hz2
    go_upto_region 4 with fail
    go_cut [4] (fun s wx => ∃ A c, s = .slice A 10 c ∧ PW w wx B H ⟨tx, sm, tm, fl, sy, xl, hE, nl, cl, hN, hC⟩ X m cc A 10 c (HP.p0 ⟨tx, sm, tm, fl, sy, xl, hE, nl, cl, hN, hC⟩))
    case first =>
      have k2 : wc.cell? ⟨H, 2, none⟩ = some (.int .u32 tm) := T.hd.cell (i := 2) (by omega)
      have k3 : wc.cell? ⟨H, 3, none⟩ = some (.int .u8 fl) := T.hd.cell (i := 3) (by omega)
      have k4 : wc.cell? ⟨H, 4, none⟩ = some (.int .u8 sy) := T.hd.cell (i := 4) (by omega)
      have hHlt := T.lt
      have HP0 : Hid (HP.p0 ⟨tx, sm, tm, fl, sy, xl, hE, nl, cl, hN, hC⟩ = [31, 139, 8, F] ++ leB 4 tm ++ [fl, sy]) := by show _ = _; unfold HP.p0 HP.F; dsimp only; rw [HF.out]
      go_region_held3 (fun w' => w'.cell? ⟨H, 2, none⟩ = some (.int .u32 tm) ∧ w'.cell? ⟨H, 3, none⟩ = some (.int .u8 fl) ∧ w'.cell? ⟨H, 4, none⟩ = some (.int .u8 sy))
        (first | exact PW.three T | exact PW.three T.drew | exact PW.three (T.lit _) | exact PW.three (T.lit _).drew | exact PW.three T2 | exact PW.three (T2.lit _) | exact PW.three T3 | exact PW.three (T3.lit _) | exact PW.three T4)
        (first
          | (go_at_call 18; (refine (little_any _ tm 4 hbt (by omega)).mono ?_); rintro e wl ⟨Al, ml, cl', rfl, hol, hbl⟩
             obtain rfl : 4 = ml := by have := hol.1; rw [leB_length] at this; exact this.symm
             first
               | have T2 := T.drew.below hbl
               | (have T2 := (T.lit _).drew.below hbl; have hlit := RdI.keep (RdI.lit .u8 wc [fl, sy] 5) (fun p hp => hbl.cell (p := p) (by simp; omega))))
          | ((refine step_app .u8 (H + 1) 5 i0 1 rfl (.tmp 56) (.tmp 59) _ rfl Tryz.underlying22 Hi.out Hz0.out Hz1.out Hz2.out rfl T2.own rfl hol.rd (by simp <;> omega) (by omega) (by first | (have := T2.lt; omega) | (have := T3.lt; omega) | (have := T2.lt; simp; omega) | (have := T3.lt; simp; omega)) ?_); intro A3 c3 w3 hown3 hg3 hat3
             have T3 := T2.grown hg3 hown3
             try have hlit := RdI.grown_ hlit hg3 (by have := hbl.size; simp at this; omega) (fun k hk ad had => by cases had; have := (T.own.2.lt hk).2; simp; omega))
          | ((refine step_app .u8 (H + 1) 5 i0 1 rfl (.tmp 56) (.tmp 59) _ rfl Tryz.underlying22 Hi.out Hz0.out Hz1.out Hz2.out rfl (T2.lit _).own rfl (hol.rd.alloc (Nat.le_refl _) _) (by simp <;> omega) (by omega) (by first | (have := T2.lt; omega) | (have := T3.lt; omega) | (have := T2.lt; simp; omega) | (have := T3.lt; simp; omega)) ?_); intro A3 c3 w3 hown3 hg3 hat3
             have T3 := (T2.lit _).grown hg3 hown3
             have hlit := RdI.grown_ (RdI.lit .u8 wl [fl, sy] 5) hg3 (by simp) (fun k hk ad had => by cases had; have := (T2.own.2.lt hk).2; simp; omega))
          | ((refine step_app .u8 (H + 1) 5 i0 1 rfl (.tmp 60) (.tmp 65) _ rfl Tryz.underlying22 Hi.out Hz0.out Hz1.out Hz2.out rfl (T3.lit _).own rfl (RdI.lit .u8 w3 [fl, sy] 5) (by simp <;> omega) (by omega) (by first | (have := T2.lt; omega) | (have := T3.lt; omega) | (have := T2.lt; simp; omega) | (have := T3.lt; simp; omega)) ?_); intro A4 c4 w4 hown4 hg4 hat4
             have T4 := (T3.lit _).grown hg4 hown4)
          | ((refine step_app .u8 (H + 1) 5 i0 1 rfl (.tmp 60) (.tmp 65) _ rfl Tryz.underlying22 Hi.out Hz0.out Hz1.out Hz2.out rfl T3.own rfl hlit (by simp <;> omega) (by omega) (by first | (have := T2.lt; omega) | (have := T3.lt; omega) | (have := T2.lt; simp; omega) | (have := T3.lt; simp; omega)) ?_); intro A4 c4 w4 hown4 hg4 hat4
             have T4 := T3.grown hg4 hown4))
      all_goals
        go_wp2
        go_meet
        refine ⟨A4, c4, rfl, ?_⟩
        rw [HP0.out]
        exact T4
    case rest =>
    clear T
    obtain ⟨A, c, rfl, T⟩ := hcut
    have k6 : wc.cell? ⟨H, 6, none⟩ = some (.bool hE) := T.hd.cell (i := 6) (by omega)
    go_upto_if 68 with fail
    go_cut [4] (fun s wx => ∃ A n c, s = .slice A n c ∧ n ≤ 200000 ∧ PW w wx B H ⟨tx, sm, tm, fl, sy, xl, hE, nl, cl, hN, hC⟩ X m cc A n c (HP.p1 ⟨tx, sm, tm, fl, sy, xl, hE, nl, cl, hN, hC⟩))
    case first =>
      cases hE with
      | false =>
        have HP1 : Hid (HP.p1 ⟨tx, sm, tm, fl, sy, xl, false, nl, cl, hN, hC⟩ = HP.p0 ⟨tx, sm, tm, fl, sy, xl, false, nl, cl, hN, hC⟩) := by show _ = _; unfold HP.p1; simp
        go_wp2
        go_meet
        refine ⟨A, 10, c, rfl, by omega, ?_⟩
        rw [HP1.out]
        exact T
      | true =>
        have HP1 : Hid (HP.p1 ⟨tx, sm, tm, fl, sy, xl, true, nl, cl, hN, hC⟩ = HP.p0 ⟨tx, sm, tm, fl, sy, xl, true, nl, cl, hN, hC⟩ ++ leB 2 m ++ xl) := by show _ = _; unfold HP.p1; dsimp only; rw [if_pos rfl, ← HX.out, List.append_assoc]
        have hHlt := T.lt
        have k5 := T.exx
        have hwm : IntKind.u32.wrap (m : Int) = m := by rw [IntKind.wrap_u32]; omega
        go_upto_region 6 with fail
        go_region_held3 (fun w' => w'.cell? ⟨H, 5, none⟩ = some (.slice X m cc))
          (first | exact PW.exx T | exact PW.exx T.drew | exact PW.exx T2 | exact PW.exx T3 | exact PW.exx T4)
          (first
            | (go_at_call 18; (refine (little_any _ (m : Int) 2 (by omega) (by omega)).mono ?_); rintro e wl ⟨Al, ml, cl', rfl, hol, hbl⟩
               obtain rfl : 2 = ml := by have := hol.1; rw [leB_length] at this; exact this.symm
               have T2 := T.drew.below hbl)
            | (have _g := T3; (refine step_app .u8 (H + 1) 5 i0 1 rfl (.tmp 75) (.tmp 77) _ rfl Tryz.underlying22 Hi.out Hz0.out Hz1.out Hz2.out rfl T3.own rfl T3.x (by omega) (by omega) (by have := T3.lt; omega) ?_); intro A4 c4 w4 hown4 hg4 hat4
               have T4 := T3.grown hg4 hown4)
            | (have _g := T2; (refine step_app .u8 (H + 1) 5 i0 1 rfl (.tmp 69) (.tmp 74) _ rfl Tryz.underlying22 Hi.out Hz0.out Hz1.out Hz2.out rfl T2.own rfl hol.rd (by omega) (by omega) (by have := T2.lt; omega) ?_); intro A3 c3 w3 hown3 hg3 hat3
               have T3 := T2.grown hg3 hown3))
        all_goals
          go_wp2
          go_meet
          refine ⟨A4, _, c4, rfl, by omega, ?_⟩
          rw [HP1.out]
          exact T4
    case rest =>
    clear T k6
    obtain ⟨A, n, c, rfl, hn1, T⟩ := hcut
    have k9 : wc.cell? ⟨H, 9, none⟩ = some (.bool hN) := T.hd.cell (i := 9) (by omega)
    go_upto_if 80 with fail
    go_cut [4] (fun s wx => ∃ A n c, s = .slice A n c ∧ n ≤ 400000 ∧ PW w wx B H ⟨tx, sm, tm, fl, sy, xl, hE, nl, cl, hN, hC⟩ X m cc A n c (HP.p2 ⟨tx, sm, tm, fl, sy, xl, hE, nl, cl, hN, hC⟩))
    case first =>
      cases hN with
      | false =>
        have HP1 : Hid (HP.p2 ⟨tx, sm, tm, fl, sy, xl, hE, nl, cl, false, hC⟩ = HP.p1 ⟨tx, sm, tm, fl, sy, xl, hE, nl, cl, false, hC⟩) := by show _ = _; unfold HP.p2; simp
        go_wp2
        go_meet
        refine ⟨A, n, c, rfl, by omega, ?_⟩
        rw [HP1.out]
        exact T
      | true =>
        have HP1 : Hid (HP.p2 ⟨tx, sm, tm, fl, sy, xl, hE, nl, cl, true, hC⟩ = HP.p1 ⟨tx, sm, tm, fl, sy, xl, hE, nl, cl, true, hC⟩ ++ (nl ++ [0])) := by show _ = _; unfold HP.p2; dsimp only; rw [if_pos rfl]
        have hHlt := T.lt
        have k7 : wc.cell? ⟨H, 7, none⟩ = some (.string (strOf nl)) := T.hd.cell (i := 7) (by omega)
        go_wp2_with (at_builtin; go_must (refine wpList_app_str (H + 1) 5 i0 rfl (.tmp 81) (.tmp 83) _ _ rfl Tryz.underlying22 Tryz.underlying9 Hi.out Hz0.out Hz1.out Hz2.out rfl T.own nl rfl hbn (by omega) (by omega) ?_))
        intro A3 c3 w3 hown3 hg3
        have T3 := T.grown hg3 hown3
        have hH3 := T3.lt
        have T3l := T3.lit (.cells #[.int .u8 0] 5)
        go_wp2_with (at_builtin; go_must (refine wpList_app .u8 (H + 1) 5 i0 1 rfl (.tmp 84) (.tmp 85) _ rfl Tryz.underlying22 Hi.out Hz0.out Hz1.out Hz2.out rfl T3l.own rfl (RdI.lit .u8 w3 [0] 5) (by simp; omega) (by omega) (by simp; omega) ?_))
        intro A4 c4 w4 hown4 hg4 hat4
        have T4 := T3l.grown hg4 hown4
        go_wp2
        go_meet
        refine ⟨A4, _, c4, rfl, by simp; omega, ?_⟩
        rw [HP1.out]
        exact T4
    case rest =>
    clear T k9 hn1
    obtain ⟨A, n, c, rfl, hn1, T⟩ := hcut
    have k10 : wc.cell? ⟨H, 10, none⟩ = some (.bool hC) := T.hd.cell (i := 10) (by omega)
    go_upto_if 88 with fail
    go_cut [4] (fun s wx => ∃ A n c, s = .slice A n c ∧ n ≤ 600000 ∧ PW w wx B H ⟨tx, sm, tm, fl, sy, xl, hE, nl, cl, hN, hC⟩ X m cc A n c (HP.p3 ⟨tx, sm, tm, fl, sy, xl, hE, nl, cl, hN, hC⟩))
    case first =>
      cases hC with
      | false =>
        have HP1 : Hid (HP.p3 ⟨tx, sm, tm, fl, sy, xl, hE, nl, cl, hN, false⟩ = HP.p2 ⟨tx, sm, tm, fl, sy, xl, hE, nl, cl, hN, false⟩) := by show _ = _; unfold HP.p3; simp
        go_wp2
        go_meet
        refine ⟨A, n, c, rfl, by omega, ?_⟩
        rw [HP1.out]
        exact T
      | true =>
        have HP1 : Hid (HP.p3 ⟨tx, sm, tm, fl, sy, xl, hE, nl, cl, hN, true⟩ = HP.p2 ⟨tx, sm, tm, fl, sy, xl, hE, nl, cl, hN, true⟩ ++ (cl ++ [0])) := by show _ = _; unfold HP.p3; dsimp only; rw [if_pos rfl]
        have hHlt := T.lt
        have k8 : wc.cell? ⟨H, 8, none⟩ = some (.string (strOf cl)) := T.hd.cell (i := 8) (by omega)
        go_wp2_with (at_builtin; go_must (refine wpList_app_str (H + 1) 5 i0 rfl (.tmp 89) (.tmp 91) _ _ rfl Tryz.underlying22 Tryz.underlying9 Hi.out Hz0.out Hz1.out Hz2.out rfl T.own cl rfl hbc (by omega) (by omega) ?_))
        intro A3 c3 w3 hown3 hg3
        have T3 := T.grown hg3 hown3
        have hH3 := T3.lt
        have T3l := T3.lit (.cells #[.int .u8 0] 5)
        go_wp2_with (at_builtin; go_must (refine wpList_app .u8 (H + 1) 5 i0 1 rfl (.tmp 92) (.tmp 93) _ rfl Tryz.underlying22 Hi.out Hz0.out Hz1.out Hz2.out rfl T3l.own rfl (RdI.lit .u8 w3 [0] 5) (by simp; omega) (by omega) (by simp; omega) ?_))
        intro A4 c4 w4 hown4 hg4 hat4
        have T4 := T3l.grown hg4 hown4
        go_wp2
        go_meet
        refine ⟨A4, _, c4, rfl, by simp; omega, ?_⟩
        rw [HP1.out]
        exact T4
    case rest =>
    clear T k10 hn1
    obtain ⟨A, n, c, rfl, hn1, T⟩ := hcut
    have k1 : wc.cell? ⟨H, 1, none⟩ = some (.bool sm) := T.hd.cell (i := 1) (by omega)
    cases sm with
    | false =>
      have HP1 : Hid (HP.p4 ⟨tx, false, tm, fl, sy, xl, hE, nl, cl, hN, hC⟩ = HP.p3 ⟨tx, false, tm, fl, sy, xl, hE, nl, cl, hN, hC⟩) := by show _ = _; unfold HP.p4; simp
      go_wp2
      go_returns
      exact .inl ⟨HOK.out, A, n, c, rfl, by rw [HP1.out]; exact HM.out ▸ T.own.more (by omega), HM.out ▸ T.b⟩
    | true =>
      obtain ⟨q, hq⟩ : ∃ q, HP.p3 ⟨tx, true, tm, fl, sy, xl, hE, nl, cl, hN, hC⟩ = q := ⟨_, rfl⟩
      have HP1 : Hid (HP.p4 ⟨tx, true, tm, fl, sy, xl, hE, nl, cl, hN, hC⟩ = q ++ leB 2 (cmpI (crTo (cmpI 0) q n))) := by
        show _ = _
        have h1 := T.own.1
        unfold HP.p4
        dsimp only
        rw [if_pos rfl, hq, h1, hq]
      rw [hq] at T
      have hqb : ∀ i, 0 ≤ ix q i ∧ ix q i < 256 := by
        rw [← hq]
        exact ix_mem_bd (p3_bd _ hb)
      have hcr := cmpI_bd (crTo_bd (x := cmpI 0) (l := q) (cmpI_bd (by omega)) hqb n)
      obtain ⟨cv, hcv⟩ : ∃ cv, cmpI (crTo (cmpI 0) q n) = cv := ⟨_, rfl⟩
      have hcc := crc_any 0 A n c wc.heap.size q wc T.own.rd (Nat.le_refl _) hqb (by omega) (by omega)
      rw [hcv] at hcr hcc HP1
      have HCC := Lib.hid hcc
      clear hcc hq hqb hcv
      go_wp2_with fail
      refine HCC.out.mono ?_
      rintro e w2 ⟨rfl, hb2⟩
      have T2 := T.below hb2
      go_wp2_with fail
      refine (little_any _ cv 2 hcr (by omega)).mono ?_
      rintro e wl ⟨Al, ml, cl', rfl, hol, hbl⟩
      obtain rfl : 2 = ml := by have := hol.1; rw [leB_length] at this; exact this.symm
      have T3 := T2.below hbl
      have hH3 := T3.lt
      go_wp2_with (at_builtin; go_must (refine wpList_app .u8 (H + 1) 5 i0 1 rfl (.tmp 97) (.tmp 100) _ rfl Tryz.underlying22 Hi.out Hz0.out Hz1.out Hz2.out rfl T3.own rfl hol.rd (by omega) (by omega) (by omega) ?_))
      intro A4 c4 w4 hown4 hg4 hat4
      have T4 := T3.grown hg4 hown4
      go_wp2
      go_returns
      exact .inl ⟨HOK.out, A4, _, c4, rfl, by rw [HP1.out]; exact HM.out ▸ T4.own.more (by omega), HM.out ▸ T4.b⟩
end Go.Proofs.YtkmpohgbbfhciaaGreat
