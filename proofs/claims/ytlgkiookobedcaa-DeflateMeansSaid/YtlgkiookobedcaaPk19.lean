/-
  Several texts in one (written by pack2.py): BkO, PlnM, PlnS, PlnV, BkZ.
-/
import Derived.Test.YtlgkiookobedcaaProg
import Derived.Test.YtlgkiookobedcaaArr
import Derived.Test.YtlgkiookobedcaaPk17
import Derived.Test.YtlgkiookobedcaaPk18
import Derived.Test.YtlgkiookobedcaaPk16
import Derived.Test.YtlgkiookobedcaaPk3
import Derived.Handy
import Derived.Deep.CutBlock
import Derived.Deep.DeepCutAuto
import Derived.Test.YtlgkiookobedcaaFrqW
import Derived.Test.YtlgkiookobedcaaRunV
import Derived.Test.YtlgkiookobedcaaPk15
import Derived.BigRegion
namespace Go.Proofs.Ytlgkiookobedcaa
open Go.RowKit
set_option linter.unusedVariables false
def ordC : Array Value := (ordQ.map (Value.int .i64)).toArray
theorem ordC_at : ∀ i, i < 19 → ordC[i]? = some (.int .i64 (ix ordQ i)) := by
  intro i hi
  unfold ordC
  simp [ix, ordQ]
  rcases i with _ | _ | _ | _ | _ | _ | _ | _ | _ | _ | _ | _ | _ | _ | _ | _ | _ | _ | _ | i <;> first | rfl | omega
theorem ordQ_bd : ∀ i, i < 19 → 0 ≤ ix ordQ i ∧ ix ordQ i ≤ 18 := by decide
set_option maxRecDepth 100000 in
set_option maxHeartbeats 4000000 in
theorem order_any (w : World) : Calls Try.prog 69 #[] w fun e w' => e = .returned (.agg ordC) ∧ w' = w.alloc (.cells ordC 116) := by
  go_enter Try.func69, Try.ntmps69
  go_upto_region 1 with fail
  refine wp_region_list ?_
  refine wpList_buildFlatArrTo rfl 116 3 19 _ rfl .i64 ordQ (some 1) rfl Try.underlying116 (by kernel_rfl) (by kernel_rfl) rfl ?_
  refine wpList_store_rowTo rfl 116 (.tmp 0) (.tmp 1) rfl rfl w.heap.size ordC rfl rfl 116 _ (heap_alloc_new w _) (by kernel_rfl) rfl (by simp [ordC, ordQ, Value.oneCell']) ?_
  rw [World.setRow_alloc_new]
  go_wp2_with ((with_reducible (show bodyPost _ _ _ _ _ _)); exact bodyPost_ret (results_cell_row rfl _ _ w.heap.size _ ordC _ _ rfl (heap_alloc_new w _) Try.underlying116 rfl (by kernel_rfl)) rfl ⟨rfl, rfl⟩)
theorem trimQ_go {l : List Int} {few n : Nat} (h : few < n + 1 ∧ ix l n = 0) : trimQ l few (n + 1) = trimQ l few n := if_pos h
theorem trimQ_stop {l : List Int} {few n : Nat} (h : ¬ (few < n + 1 ∧ ix l n = 0)) : trimQ l few (n + 1) = n + 1 := if_neg h
theorem bko_info : (Try.prog.info? 3).map (fun i => (i.zero, i.size, i.bytes)) = some (some (.int .i64 0), 1, 8) := by kernel_rfl
set_option maxRecDepth 100000 in
set_option maxHeartbeats 4000000 in
theorem trimmed_any (w : World) (A : Option Addr) (n c B few : Nat) (l : List Int) (hl : RdI .i64 w B A n l) (hn : n ≤ 1000) (hc : n ≤ c) (hf : few ≤ 1000) :
    Calls Try.prog 67 #[.slice A n c, .int .i64 few] w fun e w' => e = .returned (.slice A (trimQ l few n) c) ∧ w = w' := by
  obtain ⟨i0, hi, hz0, hz1, hz2⟩ := info_parts bko_info
  have hsl : Hid (∀ (j : Nat), j ≤ c → (Instr.slice 32 (.slice A n c) none (some (.int .i64 (j : Int))) none).run Try.prog w = .ok (.slice A j c) w) := fun j hj => run_slice_to (P := Try.prog) 32 3 Try.underlying32 hi hz1 A n c hj w
  have HL := Lib.hid hl
  have hnI : (0 : Int) ≤ (n : Int) ∧ (n : Int) ≤ 1000 ∧ (0 : Int) ≤ (few : Int) ∧ (few : Int) ≤ 1000 := by omega
  clear hi hz0 hz1 hz2 hl
  go_enter Try.func67, Try.ntmps67
  go_wp2_with fail
  go_loopg [5] n (fun (gk : Nat) (v5 : Value) wx => v5 = .int .i64 gk ∧ wx = w ∧ gk ≤ n ∧ Hid (trimQ l few gk = trimQ l few n))
  case atStart => exact ⟨rfl, rfl, Nat.le_refl _, rfl⟩
  case round =>
    obtain ⟨rfl, hw, hk, ht⟩ := hrel
    obtain rfl := hw.symm
    have hkI : (0 : Int) ≤ (gk : Int) ∧ (gk : Int) ≤ (n : Int) := by omega
    by_cases hlt : few < gk
    · obtain ⟨q, rfl⟩ : ∃ q, gk = q + 1 := ⟨gk - 1, by omega⟩
      have hltI : (few : Int) < (q : Int) + 1 := by omega
      obtain ⟨ad, hA, -, hc0⟩ := HL.out.at_ (i := q) (by omega)
      obtain ⟨X, hX⟩ : ∃ X, ix l q = X := ⟨_, rfl⟩
      rw [hX] at hc0
      subst hA
      by_cases h0 : X = 0
      · have HT := Lib.hid ((trimQ_go ⟨hlt, by rw [hX]; exact h0⟩).symm.trans ht.out)
        subst h0
        clear hX ht
        go_wp2_with fail
        go_roundg q
        case measure => omega
        case rel => exact ⟨by go_num, rfl, by omega, HT.out⟩
      · have HT := Lib.hid ((trimQ_stop (by rw [hX]; exact fun h => h0 h.2)).symm.trans ht.out)
        have h0b : (X == 0) = false := by simpa using h0
        have hsj := hsl.out (q + 1) (by omega)
        clear hX ht h0
        go_wp2_with fail
        go_ret
        exact ⟨by rw [← HT.out]; rfl, rfl⟩
    · have hltI : ¬ (few : Int) < (gk : Int) := by omega
      have HT := Lib.hid ((trimQ_few (l := l) (show gk ≤ few by omega)).symm.trans ht.out)
      have hsj := hsl.out gk (by omega)
      clear ht
      go_wp2_with fail
      go_ret
      exact ⟨by rw [← HT.out]; rfl, rfl⟩
def stoB (L : List Int) (raw : List Int) : List Int := evn L ++ ofN raw.length 16 ++ ofN (4294967295 - (raw.length : Int)) 16 ++ bts raw
theorem ofN16_even (L : List Int) (a b : Int) : evn (evn L ++ ofN a 16 ++ ofN b 16) = evn L ++ ofN a 16 ++ ofN b 16 :=
  evn_same (by rw [List.length_append, List.length_append, ofN_length, ofN_length]; have := evn_even L; omega)
theorem bk_not (V : Nat) (h : V < 4294967296) : bits .xor .u32 IntKind.u32.max (V : Int) = 4294967295 - (V : Int) := by
  show IntKind.u32.wrap ((BitVec.ofInt 32 IntKind.u32.max ^^^ BitVec.ofInt 32 (V : Int)).toNat : Int) = _
  have e : BitVec.ofInt 32 IntKind.u32.max = BitVec.allOnes 32 := by decide
  rw [e, BitVec.allOnes_xor, BitVec.toNat_not, ofInt_u32 V h, IntKind.wrap_u32']
  omega
set_option maxRecDepth 100000 in
set_option maxHeartbeats 4000000 in
theorem stored_any (w : World) (b0 g n c B m d : Nat) (A C : Option Addr) (L raw : List Int) (hw : Wtr w b0 g A n c L) (hr : RdI .u8 w B C m raw) (hB : B ≤ w.heap.size) (hsep : 0 < m → ∀ ad, C = some ad → ¬ foot A g ad.block) (hby : ∀ x ∈ raw, 0 ≤ x ∧ x < 256) (hlen : L.length ≤ 3000000000000) (hm : m ≤ 65535) :
    Calls Try.prog 46 #[.pointer (some ⟨g, 0, none⟩), .slice C m d] w fun e w' => e = .returned (.tuple #[]) ∧ BkS w w' b0 g A (stoB L raw) := by
  have hmI : (0 : Int) ≤ (m : Int) ∧ (m : Int) ≤ 65535 := by omega
  have hev : (evn L).length ≤ L.length + 7 := by rw [evn_length]; omega
  have hml := hr.1
  have HX := Lib.hid (bk_not m (by omega))
  have HSB := Lib.hid (show evn (evn L ++ ofN (m : Int) 16 ++ ofN (4294967295 - (m : Int)) 16) ++ bts raw = stoB L raw by rw [ofN16_even]; unfold stoB; rw [← hml])
  have HW := Lib.hid (⟨hw, hr, hB, hsep, hby, hlen, hev⟩ : _ ∧ _ ∧ _ ∧ _ ∧ _ ∧ _ ∧ _)
  have HA := Lib.hid (wtrAlign_any w b0 g n c A L hw (by omega))
  clear hw hr hB hsep hby hlen hev hml
  go_enter Try.func46, Try.ntmps46
  go_wp2_with fail
  refine HA.out.mono ?_
  rintro e w1 ⟨A1, n1, c1, rfl, hw1, hc1, hA1⟩
  have HS1 := Lib.hid (BkS.next (Chg.refl w (foot A g)) (fun k hk => .inl hk) hw1 hc1 hA1)
  have HP1 := Lib.hid (HS1.out.put (m : Int) 16 (by omega) (by omega) (by have := HW.out; omega))
  clear hw1 hc1 hA1
  go_wp2_with fail
  refine HP1.out.mono ?_
  rintro e w2 ⟨rfl, h2⟩
  obtain ⟨V, hV⟩ : ∃ V, 4294967295 - (m : Int) = V := ⟨_, rfl⟩
  have hVb : 0 ≤ V ∧ V < 4294967296 := by omega
  rw [hV] at HX HSB
  have HP2 := Lib.hid (h2.put V 16 hVb (by omega) (by rw [List.length_append, ofN_length]; have := HW.out; omega))
  have hxx : bits .xor .u32 (if IntKind.u32.signed = true then -1 else IntKind.u32.max) (m : Int) = V := HX.out
  clear h2 hV
  go_wp2_with fail
  refine HP2.out.mono ?_
  rintro e w3 ⟨rfl, h3⟩
  obtain ⟨hw, hr, hB, hsep, hby, hlen, hev⟩ := HW.out
  obtain ⟨⟨A3, n3, c3, hw3, hA3⟩, hc3⟩ := h3
  have HWR := Lib.hid (wtrWrite_any w3 b0 g n3 c3 B m d A3 C _ raw hw3 (hc3.rdI hr hB hsep) (Nat.le_trans hB hc3.size) (fun h0 ad e hk => by
    have hbl : ad.block < w.heap.size := by
      obtain ⟨ad', e', hb', _⟩ := hr.2 h0
      rw [e] at e'; injection e' with e'; rw [e']; exact Nat.lt_of_lt_of_le hb' hB
    rcases hk with hk | hk
    · exact hsep h0 ad e (.inl hk)
    · rcases hA3 _ hk with h | h
      · exact hsep h0 ad e (.inr h)
      · omega) hby (by rw [List.length_append, List.length_append, ofN_length, ofN_length]; omega) (by omega))
  rw [HSB.out] at HWR
  have HC3 := Lib.hid (⟨hA3, hc3⟩ : _ ∧ _)
  clear hw hr hB hsep hby hlen hev hw3 hA3 hc3 hxx
  go_wp2_with fail
  refine HWR.out.mono ?_
  rintro e w4 ⟨A4, n4, c4, rfl, hw4, hc4, hA4⟩
  have hfin := Lib.hid (BkS.next HC3.out.2 HC3.out.1 hw4 hc4 hA4)
  clear hw4 hc4 hA4
  go_wp2_with fail
  go_end0
  exact ⟨rfl, hfin.out⟩
end Go.Proofs.Ytlgkiookobedcaa
namespace Go.Proofs.Ytlgkiookobedcaa
open Go.RowKit
set_option linter.unusedVariables false
def pnf (a b c d e : Value) : Nat → Value
  | 0 => a
  | 1 => b
  | 2 => c
  | 3 => d
  | _ => e
def nilS : Value := .slice none 0 0
theorem pnf_new (w : World) (a b c d e : Value) (t : TypeId) : Ar (w.alloc (.cells #[a, b, c, d, e] t)) w.heap.size 5 (pnf a b c d e) :=
  Ar.new w _ t rfl fun i hi => by
    obtain rfl | rfl | rfl | rfl | rfl : i = 0 ∨ i = 1 ∨ i = 2 ∨ i = 3 ∨ i = 4 := by omega
    all_goals rfl
structure PlS (w wx : World) (R P : Nat) (a b c d e : Value) : Prop where
  res : Ar wx R 5 (pnf nilS nilS nilS nilS (.int .i64 0))
  box : Ar wx P 5 (pnf a b c d e)
  bel : Below w.heap.size w wx
  rlo : w.heap.size ≤ R
  plo : R < P
section
variable {w wx w' : World} {R P : Nat} {a b c d e : Value}
theorem PlS.drew (h : PlS w wx R P a b c d e) : PlS w wx.drew R P a b c d e := ⟨h.res, h.box, ⟨h.bel.os, h.bel.tape, h.bel.output, h.bel.size, h.bel.block⟩, h.rlo, h.plo⟩
theorem PlS.alloc (h : PlS w wx R P a b c d e) (o : Obj) : PlS w (wx.alloc o) R P a b c d e := ⟨h.res.alloc o, h.box.alloc o, h.bel.alloc h.bel.size o, h.rlo, h.plo⟩
theorem PlS.keeps (h : PlS w wx R P a b c d e) (hb : Below wx.heap.size wx w') : PlS w w' R P a b c d e := ⟨h.res.keeps hb, h.box.keeps hb, h.bel.trans (hb.mono h.bel.size), h.rlo, h.plo⟩
theorem PlS.far (h : PlS w wx R P a b c d e) {p : Addr} (hR : R ≠ p.block) (hP : P ≠ p.block) (hw : w.heap.size ≤ p.block) (v : Value) : PlS w (wx.setCell p v) R P a b c d e := ⟨h.res.far hR v, h.box.far hP v, h.bel.setCell hw v, h.rlo, h.plo⟩
theorem PlS.ne (h : PlS w wx R P a b c d e) : R ≠ P := by have := h.plo; omega
theorem PlS.lo (h : PlS w wx R P a b c d e) : w.heap.size ≤ P := by have := h.plo; have := h.rlo; omega
theorem PlS.put (h : PlS w wx R P a b c d e) {i : Nat} (hi : i < 5) (v : Value) {a' b' c' d' e' : Value} (hf : ∀ j, j < 5 → upd (pnf a b c d e) i v j = pnf a' b' c' d' e' j) : PlS w (wx.setCell ⟨P, i, none⟩ v) R P a' b' c' d' e' :=
  ⟨h.res.far (p := ⟨P, i, none⟩) h.ne v, (h.box.set_ hi v).congr hf, h.bel.setCell (p := ⟨P, i, none⟩) h.lo v, h.rlo, h.plo⟩
theorem PlS.put0 (h : PlS w wx R P a b c d e) (v : Value) : PlS w (wx.setCell ⟨P, 0, none⟩ v) R P v b c d e := h.put (by omega) v fun j hj => by
  obtain rfl | rfl | rfl | rfl | rfl : j = 0 ∨ j = 1 ∨ j = 2 ∨ j = 3 ∨ j = 4 := by omega
  all_goals rfl
theorem PlS.put1 (h : PlS w wx R P a b c d e) (v : Value) : PlS w (wx.setCell ⟨P, 1, none⟩ v) R P a v c d e := h.put (by omega) v fun j hj => by
  obtain rfl | rfl | rfl | rfl | rfl : j = 0 ∨ j = 1 ∨ j = 2 ∨ j = 3 ∨ j = 4 := by omega
  all_goals rfl
theorem PlS.put2 (h : PlS w wx R P a b c d e) (v : Value) : PlS w (wx.setCell ⟨P, 2, none⟩ v) R P a b v d e := h.put (by omega) v fun j hj => by
  obtain rfl | rfl | rfl | rfl | rfl : j = 0 ∨ j = 1 ∨ j = 2 ∨ j = 3 ∨ j = 4 := by omega
  all_goals rfl
theorem PlS.put3 (h : PlS w wx R P a b c d e) (v : Value) : PlS w (wx.setCell ⟨P, 3, none⟩ v) R P a b c v e := h.put (by omega) v fun j hj => by
  obtain rfl | rfl | rfl | rfl | rfl : j = 0 ∨ j = 1 ∨ j = 2 ∨ j = 3 ∨ j = 4 := by omega
  all_goals rfl
theorem PlS.put4 (h : PlS w wx R P a b c d e) (v : Value) : PlS w (wx.setCell ⟨P, 4, none⟩ v) R P a b c d v := h.put (by omega) v fun j hj => by
  obtain rfl | rfl | rfl | rfl | rfl : j = 0 ∨ j = 1 ∨ j = 2 ∨ j = 3 ∨ j = 4 := by omega
  all_goals rfl
theorem PlS.cells (h : PlS w wx R P a b c d e) : (wx.cell? ⟨P, 0, none⟩ = some a ∧ wx.cell? ⟨P, 1, none⟩ = some b ∧ wx.cell? ⟨P, 2, none⟩ = some c ∧ wx.cell? ⟨P, 3, none⟩ = some d ∧ wx.cell? ⟨P, 4, none⟩ = some e) ∧ ∀ i, i < 5 → wx.frozen? ⟨P, i, none⟩ = false :=
  ⟨⟨h.box.cell (i := 0) (by omega), h.box.cell (i := 1) (by omega), h.box.cell (i := 2) (by omega), h.box.cell (i := 3) (by omega), h.box.cell (i := 4) (by omega)⟩, fun i hi => h.box.frozen' hi⟩
end
theorem Own.pre {w : World} {b0 : Nat} {e : TypeId} {sz n c : Nat} {A : Option Addr} {f : Nat → Value} (h : Own w b0 e sz A n c f) {j : Nat} (hj : j ≤ n) : Own w b0 e sz A j c f := by
  rcases h with ⟨h1, h2, h3⟩ | ⟨g, cur, h1, h2, h3, h4, h5, h6, h7⟩
  · exact .inl ⟨h1, by omega, h3⟩
  · exact .inr ⟨g, cur, h1, h2, h3, by omega, h5, h6, fun i hi => h7 i (Nat.lt_of_lt_of_le hi (Nat.mul_le_mul_right _ hj))⟩
theorem OwnI.pre {k : IntKind} {w : World} {b0 : Nat} {e : TypeId} {n c : Nat} {A : Option Addr} {l : List Int} (h : OwnI k w b0 e A n c l) {j : Nat} (hj : j ≤ n) : OwnI k w b0 e A j c (l.take j) :=
  ⟨by rw [List.length_take, ← h.1]; omega, (h.2.pre hj).congr fun i hi => by rw [ix_takeB (by omega)]⟩
theorem OwnI.cap {k : IntKind} {w : World} {b0 : Nat} {e : TypeId} {n c : Nat} {A : Option Addr} {l : List Int} (h : OwnI k w b0 e A n c l) : n ≤ c := by
  rcases h.2 with ⟨h1, h2, h3⟩ | ⟨g, cur, h1, h2, h3, h4, h5, h6, h7⟩
  · omega
  · exact h4
structure PlR (b : Nat) (wx : World) (P : Nat) (Al Ad : Option Addr) (nl cl nd cd : Nat) (l d : List Int) : Prop where
  lit : OwnI .i64 wx b 3 Al nl cl l
  dist : OwnI .i64 wx b 3 Ad nd cd d
  lp : blkOf Al ≠ some P
  dp : blkOf Ad ≠ some P
  ld : ∀ k, blkOf Al = some k → blkOf Ad ≠ some k
section
variable {b : Nat} {wx w' : World} {P : Nat} {Al Ad : Option Addr} {nl cl nd cd : Nat} {l d : List Int}
theorem PlR.drew (h : PlR b wx P Al Ad nl cl nd cd l d) : PlR b wx.drew P Al Ad nl cl nd cd l d := ⟨h.lit, h.dist, h.lp, h.dp, h.ld⟩
theorem PlR.alloc (h : PlR b wx P Al Ad nl cl nd cd l d) (o : Obj) : PlR b (wx.alloc o) P Al Ad nl cl nd cd l d := ⟨h.lit.alloc o, h.dist.alloc o, h.lp, h.dp, h.ld⟩
theorem PlR.keeps (h : PlR b wx P Al Ad nl cl nd cd l d) (hb : Below wx.heap.size wx w') : PlR b w' P Al Ad nl cl nd cd l d := ⟨h.lit.keeps hb, h.dist.keeps hb, h.lp, h.dp, h.ld⟩
theorem PlR.put (h : PlR b wx P Al Ad nl cl nd cd l d) (i : Nat) (v : Value) : PlR b (wx.setCell ⟨P, i, none⟩ v) P Al Ad nl cl nd cd l d := ⟨h.lit.far (p := ⟨P, i, none⟩) h.lp v, h.dist.far (p := ⟨P, i, none⟩) h.dp v, h.lp, h.dp, h.ld⟩
end
theorem PlR.pre {b : Nat} {wx : World} {P : Nat} {Al Ad : Option Addr} {nl cl nd cd n1 n2 : Nat} {l d : List Int} (h : PlR b wx P Al Ad nl cl nd cd l d) (h1 : n1 ≤ nl) (h2 : n2 ≤ nd) : PlR b wx P Al Ad n1 cl n2 cd (l.take n1) (d.take n2) := ⟨h.lit.pre h1, h.dist.pre h2, h.lp, h.dp, h.ld⟩
theorem plan_app {w wx w' : World} {R P : Nat} {a b c d e : Value} {Al Ad : Option Addr} {nl cl nd cd : Nat} {l D : List Int} {row : Option Nat} (h : PlS w wx R P a b c d e) (hr : PlR (R + 1) wx P Al Ad nl cl nd cd l D)
    (hrow : ∀ k, row = some k → R < k ∧ k ≠ P ∧ blkOf Al ≠ some k ∧ blkOf Ad ≠ some k) (hg : wx.grownBy w' row) : PlS w w' R P a b c d e ∧ PlR (R + 1) w' P Al Ad nl cl nd cd l D := by
  have ne : ∀ k, ¬ (R < k ∧ k ≠ P ∧ blkOf Al ≠ some k ∧ blkOf Ad ≠ some k) → some k ≠ row := fun k hk e => hk (hrow k e.symm)
  refine ⟨⟨h.res.grown hg (ne _ (by omega)), h.box.grown hg (ne _ (by omega)), h.bel.grown hg h.bel.size fun k hk => by have := hrow k hk; have := h.rlo; omega, h.rlo, h.plo⟩, ⟨hr.lit.grown hg ?_, hr.dist.grown hg ?_, hr.lp, hr.dp, hr.ld⟩⟩
  · cases hA : blkOf Al with
    | none => exact .inr rfl
    | some k => exact .inl (ne k fun h => h.2.2.1 hA)
  · cases hA : blkOf Ad with
    | none => exact .inr rfl
    | some k => exact .inl (ne k fun h => h.2.2.2 hA)
inductive TrI (AL AD : Option Addr) (cL cD n1 n2 : Nat) : Option Addr → Nat → Nat → Int → Nat → Prop
  | lit : TrI AL AD cL cD n1 n2 AL 286 cL 257 n1
  | dist : TrI AL AD cL cD n1 n2 AD 30 cD 1 n2
theorem trim_two {b P : Nat} {AL AD : Option Addr} {cL cD : Nat} {t : List Tok} (W : World) (h : PlR b W P AL AD 286 cL 30 cD (litL t) (dstL t)) (A : Option Addr) (n c : Nat) (few : Int) (m : Nat) (hc : TrI AL AD cL cD (litN t) (dstN t) A n c few m) :
    Calls Try.prog 67 #[.slice A n c, .int .i64 few] W fun e w' => e = .returned (.slice A m c) ∧ W = w' := by
  cases hc with
  | lit => exact trimmed_any W AL 286 cL _ 257 _ h.lit.rd (by omega) h.lit.cap (by omega)
  | dist => exact trimmed_any W AD 30 cD _ 1 _ h.dist.rd (by omega) h.dist.cap (by omega)
theorem RdR.at3 {w : World} {B n : Nat} {A : Option Addr} {l : List Rn} (h : RdR w B A n l) {k : Nat} (hk : k < n) : ∃ ad, A = some ad ∧ ad.block < B ∧ w.cell? (ad.add (k * 3)) = some (.int .i64 (rnAt l k).c) ∧ w.cell? { block := (ad.add (k * 3)).block, off := (ad.add (k * 3)).off + 1 } = some (.int .i64 (rnAt l k).v) ∧ w.cell? { block := (ad.add (k * 3)).block, off := (ad.add (k * 3)).off + 2 } = some (.int .i64 (rnAt l k).e) := by
  obtain ⟨ad, e, hb, hc⟩ := h.2 (by omega)
  refine ⟨ad, e, hb, ?_, ?_, ?_⟩
  · rw [hc _ (by omega), rnV_0]
  · have := hc (k * 3 + 1) (by omega)
    rw [addr_next _ _ _ (by omega), rnV_1] at this
    exact this
  · have := hc (k * 3 + 2) (by omega)
    rw [addr_next _ _ _ (by omega), rnV_2] at this
    exact this
theorem rnAt_mem {l : List Rn} {k : Nat} (hk : k < l.length) : rnAt l k ∈ l := by
  have e : rnAt l k = l[k] := by simp [rnAt, hk]
  rw [e]; exact List.getElem_mem hk
theorem rn_take {l : List Rn} {k : Nat} (h : k < l.length) : l.take (k + 1) = l.take k ++ [rnAt l k] := by
  rw [List.take_succ_eq_append_getElem h]
  simp [rnAt, h]
structure PlH (w wx : World) (R P gh : Nat) (Al Ad : Option Addr) (nl cl nd cd : Nat) (l d : List Int) (Ar : Option Addr) (nr cr : Nat) (rs : List Rn) (hl : List Int) : Prop where
  s : PlS w wx R P (.slice Al nl cl) (.slice Ad nd cd) (.slice none 0 0) (.slice Ar nr cr) (.int .i64 0)
  r : PlR (R + 1) wx P Al Ad nl cl nd cd l d
  o : OwnR wx (R + 1) Ar nr cr rs
  op : blkOf Ar ≠ some P
  h : OwnI .i64 wx (R + 1) 3 (some ⟨gh, 0, none⟩) 19 19 hl
  hp : gh ≠ P
  hA : blkOf Al ≠ some gh
  hD : blkOf Ad ≠ some gh
  hO : blkOf Ar ≠ some gh
section
variable {w wx w' : World} {R P gh : Nat} {Al Ad : Option Addr} {nl cl nd cd : Nat} {l d : List Int} {Ar : Option Addr} {nr cr : Nat} {rs : List Rn} {hl : List Int}
theorem PlH.alloc (h : PlH w wx R P gh Al Ad nl cl nd cd l d Ar nr cr rs hl) (o : Obj) : PlH w (wx.alloc o) R P gh Al Ad nl cl nd cd l d Ar nr cr rs hl := ⟨h.s.alloc o, h.r.alloc o, h.o.alloc o, h.op, h.h.alloc o, h.hp, h.hA, h.hD, h.hO⟩
theorem PlH.set (h : PlH w wx R P gh Al Ad nl cl nd cd l d Ar nr cr rs hl) {i : Nat} (hi : i < 19) (v : Int) : PlH w (wx.setCell ⟨gh, i, none⟩ (.int .i64 v)) R P gh Al Ad nl cl nd cd l d Ar nr cr rs (hl.set i v) := by
  have hg : R + 1 ≤ gh := (h.h.2.lt rfl).1
  refine ⟨h.s.far (p := ⟨gh, i, none⟩) (by show R ≠ gh; omega) (fun e => h.hp e.symm) (by show w.heap.size ≤ gh; have := h.s.rlo; omega) _, ⟨h.r.lit.far (p := ⟨gh, i, none⟩) h.hA _, h.r.dist.far (p := ⟨gh, i, none⟩) h.hD _, h.r.lp, h.r.dp, h.r.ld⟩, ⟨h.o.1, h.o.2.far (p := ⟨gh, i, none⟩) h.hO _⟩, h.op, h.h.put hi v, h.hp, h.hA, h.hD, h.hO⟩
end
def OrdM (w : World) (g : Nat) : Prop := w.heap[g]? = some (.cells ordC 116 (0, 0))
theorem OrdM.new (w : World) : OrdM (w.alloc (.cells ordC 116)) w.heap.size := heap_alloc_new w _
theorem OrdM.cell {w : World} {g i : Nat} (h : OrdM w g) (hi : i < 19) : w.cell? ⟨g, i, none⟩ = some (.int .i64 (ix ordQ i)) := by
  rw [cell_of_row w g i ordC _ _ h, ordC_at i hi]
theorem OrdM.far {w : World} {g : Nat} (h : OrdM w g) {p : Addr} (hp : g ≠ p.block) (v : Value) : OrdM (w.setCell p v) g := (Below.heap_setCell w p v g hp).trans h
theorem ordC_one : ordC.all (·.oneCell') = true := by simp [ordC, ordQ, Value.oneCell']
theorem wpList_ord {ops : Array Oper} {rest : List Oper} {o : Oper} {a : Act} {w : World} {Q : Exit → Act → World → Prop} (hgd : o.guard = none) (x y : Operand) (ho : o.op = .store 116 x y) (hd : o.dst = none) (g : Nat) (hg : g = w.heap.size) (hx : a.eval x = .pointer (some ⟨g, 0, none⟩)) (hy : a.eval y = .agg ordC)
    (zs : Array Value) (hz : zs.size = 19) (h : wpList Try.prog ops Q rest a (w.alloc (.cells ordC 116))) : wpList Try.prog ops Q (o :: rest) a (w.alloc (.cells zs 116)) := by
  subst hg
  refine wpList_store_rowTo hgd 116 x y ho hd w.heap.size ordC hx hy 116 zs (heap_alloc_new w _) (by kernel_rfl) hz ordC_one ?_
  rw [World.setRow_alloc_new]
  exact h
structure PlZ (w wx : World) (R P : Nat) (Al Ad Ah Ar : Option Addr) (nl cl nd cd ch nr cr : Nat) (l d : List Int) (rs : List Rn) (hd : List Int) (n : Nat) : Prop where
  s : PlS w wx R P (.slice Al nl cl) (.slice Ad nd cd) (.slice Ah 19 ch) (.slice Ar nr cr) (.int .i64 (n : Int))
  r : PlR (R + 1) wx P Al Ad nl cl nd cd l d
  o : OwnR wx (R + 1) Ar nr cr rs
  op : blkOf Ar ≠ some P
  h : OwnI .i64 wx (R + 1) 3 Ah 19 ch hd
  hp : blkOf Ah ≠ some P
section
variable {w wx w' : World} {R P : Nat} {Al Ad Ah Ar : Option Addr} {nl cl nd cd ch nr cr : Nat} {l d : List Int} {rs : List Rn} {hd : List Int} {n : Nat}
theorem PlZ.drew (h : PlZ w wx R P Al Ad Ah Ar nl cl nd cd ch nr cr l d rs hd n) : PlZ w wx.drew R P Al Ad Ah Ar nl cl nd cd ch nr cr l d rs hd n := ⟨h.s.drew, h.r.drew, h.o, h.op, h.h, h.hp⟩
theorem PlZ.drewN (h : PlZ w wx R P Al Ad Ah Ar nl cl nd cd ch nr cr l d rs hd n) (q : Nat) : PlZ w (wx.drewN q) R P Al Ad Ah Ar nl cl nd cd ch nr cr l d rs hd n := ⟨⟨h.s.res, h.s.box, ⟨h.s.bel.os, h.s.bel.tape, h.s.bel.output, h.s.bel.size, h.s.bel.block⟩, h.s.rlo, h.s.plo⟩, ⟨h.r.lit, h.r.dist, h.r.lp, h.r.dp, h.r.ld⟩, h.o, h.op, h.h, h.hp⟩
theorem PlZ.alloc (h : PlZ w wx R P Al Ad Ah Ar nl cl nd cd ch nr cr l d rs hd n) (o : Obj) : PlZ w (wx.alloc o) R P Al Ad Ah Ar nl cl nd cd ch nr cr l d rs hd n := ⟨h.s.alloc o, h.r.alloc o, h.o.alloc o, h.op, h.h.alloc o, h.hp⟩
theorem PlZ.keeps (h : PlZ w wx R P Al Ad Ah Ar nl cl nd cd ch nr cr l d rs hd n) (hb : Below wx.heap.size wx w') : PlZ w w' R P Al Ad Ah Ar nl cl nd cd ch nr cr l d rs hd n := ⟨h.s.keeps hb, h.r.keeps hb, h.o.keeps hb, h.op, h.h.keeps hb, h.hp⟩
theorem PlZ.put4 (h : PlZ w wx R P Al Ad Ah Ar nl cl nd cd ch nr cr l d rs hd n) (m : Nat) : PlZ w (wx.setCell ⟨P, 4, none⟩ (.int .i64 (m : Int))) R P Al Ad Ah Ar nl cl nd cd ch nr cr l d rs hd m := ⟨h.s.put4 _, h.r.put 4 _, ⟨h.o.1, h.o.2.far (p := ⟨P, 4, none⟩) h.op _⟩, h.op, h.h.far (p := ⟨P, 4, none⟩) h.hp _, h.hp⟩
end
def Hi (b : Nat) (A : Option Addr) : Prop := ∀ k, blkOf A = some k → b ≤ k
def PlanPost (w : World) (t : List Tok) (e : Ending) (w' : World) : Prop :=
  ∃ Al cl Ad cd Ah ch Ar cr, e = .returned (.agg #[.slice Al (litN t) cl, .slice Ad (dstN t) cd, .slice Ah 19 ch, .slice Ar (plRuns t).length cr, .int .i64 ((plN t : Nat) : Int)]) ∧
    RdI .i64 w' w'.heap.size Al (litN t) (plLit t) ∧ RdI .i64 w' w'.heap.size Ad (dstN t) (plDist t) ∧ RdI .i64 w' w'.heap.size Ah 19 (plHead t) ∧ RdR w' w'.heap.size Ar (plRuns t).length (plRuns t) ∧ Below w.heap.size w w' ∧ (Hi w.heap.size Al ∧ Hi w.heap.size Ad ∧ Hi w.heap.size Ah ∧ Hi w.heap.size Ar)
def put5 (w : World) (R : Nat) (a b c d e : Value) : World := ((((w.setCell ⟨R, 0, none⟩ a).setCell ⟨R, 1, none⟩ b).setCell ⟨R, 2, none⟩ c).setCell ⟨R, 3, none⟩ d).setCell ⟨R, 4, none⟩ e
theorem put5_ar {w : World} {R : Nat} {a b c d e : Value} {f : Nat → Value} (h : Ar w R 5 f) : Ar (put5 w R a b c d e) R 5 (pnf a b c d e) := by
  refine (((((h.set_ (i := 0) (by omega) a).set_ (i := 1) (by omega) b).set_ (i := 2) (by omega) c).set_ (i := 3) (by omega) d).set_ (i := 4) (by omega) e).congr fun j hj => ?_
  obtain rfl | rfl | rfl | rfl | rfl : j = 0 ∨ j = 1 ∨ j = 2 ∨ j = 3 ∨ j = 4 := by omega
  all_goals rfl
theorem put5_chg (w : World) (R : Nat) (a b c d e : Value) : Chg w (put5 w R a b c d e) (fun k => k = R) :=
  (((((Chg.refl w (fun k => k = R)).setCell (p := ⟨R, 0, none⟩) (.inl rfl) a).setCell (p := ⟨R, 1, none⟩) (.inl rfl) b).setCell (p := ⟨R, 2, none⟩) (.inl rfl) c).setCell (p := ⟨R, 3, none⟩) (.inl rfl) d).setCell (p := ⟨R, 4, none⟩) (.inl rfl) e
theorem plan_fin {w wx : World} {R P : Nat} {Al Ad Ah Ar : Option Addr} {nl cl nd cd ch nr cr : Nat} {t : List Tok} {n : Nat} (h : PlZ w wx R P Al Ad Ah Ar nl cl nd cd ch nr cr (plLit t) (plDist t) (plRuns t) (plHead t) n) (h1 : litN t = nl) (h2 : dstN t = nd) (hn : n = plN t) (a b c d e : Value) :
    PlanPost w t (.returned (.agg #[.slice Al nl cl, .slice Ad nd cd, .slice Ah 19 ch, .slice Ar nr cr, .int .i64 (n : Int)])) (put5 wx R a b c d e) := by
  have hc := put5_chg wx R a b c d e
  have hne : ∀ (A : Option Addr) (e : TypeId) (sz n c : Nat) (f : Nat → Value), Own wx (R + 1) e sz A n c f → ∀ k, blkOf A = some k → ¬ k = R := fun A e sz n c f ho k hk => by have := (ho.lt hk).1; omega
  have hlo : ∀ (A : Option Addr) (e : TypeId) (sz n c : Nat) (f : Nat → Value), Own wx (R + 1) e sz A n c f → Hi w.heap.size A := fun A e sz n c f ho k hk => by have := (ho.lt hk).1; have := h.s.rlo; omega
  subst h1 h2 hn
  refine ⟨Al, cl, Ad, cd, Ah, ch, Ar, cr, ?_, (hc.ownI h.r.lit (hne _ _ _ _ _ _ h.r.lit.2)).rd, (hc.ownI h.r.dist (hne _ _ _ _ _ _ h.r.dist.2)).rd, (hc.ownI h.h (hne _ _ _ _ _ _ h.h.2)).rd, ?_, h.s.bel.trans (hc.below (fun k hk => by rw [hk]; exact h.s.rlo) h.s.bel.size), hlo _ _ _ _ _ _ h.r.lit.2, hlo _ _ _ _ _ _ h.r.dist.2, hlo _ _ _ _ _ _ h.h.2, hlo _ _ _ _ _ _ h.o.2⟩
  · rw [h.o.1]
  · have := (show OwnR (put5 wx R a b c d e) (R + 1) Ar nr cr (plRuns t) from ⟨h.o.1, hc.own h.o.2 (hne _ _ _ _ _ _ h.o.2)⟩).rd
    rw [h.o.1] at this
    exact this
theorem results_plan {w : World} {R : Nat} {a b c d e : Value} {tmps : Array Value} (hR : Ar w R 5 (pnf a b c d e)) (h2 : tmps[2]?.getD undef = .pointer (some ⟨R, 0, none⟩)) :
    (results Try.f49 tmps).run Try.prog w = .ok (.agg #[a, b, c, d, e]) w := by
  have r0 := hR.cell (i := 0) (by omega)
  have r1 := hR.cell (i := 1) (by omega)
  have r2 := hR.cell (i := 2) (by omega)
  have r3 := hR.cell (i := 3) (by omega)
  have r4 := hR.cell (i := 4) (by omega)
  unfold pnf at r0 r1 r2 r3 r4
  simp [results, Try.results49, go_sem, h2, r0, r1, r2, r3, r4]
end Go.Proofs.Ytlgkiookobedcaa
namespace Go.Proofs.Ytlgkiookobedcaa
open Go.RowKit
set_option linter.unusedVariables false
structure PlB (w : World) (G b1 B : Nat) (t : List Tok) (Al Ad Ah Ax : Option Addr) (cl cd ch cr : Nat) : Prop where
  box : Ar w G 5 (pnf (.slice Al (litN t) cl) (.slice Ad (dstN t) cd) (.slice Ah 19 ch) (.slice Ax (plRuns t).length cr) (.int .i64 ((plN t : Nat) : Int)))
  lit : RdI .i64 w B Al (litN t) (plLit t)
  dist : RdI .i64 w B Ad (dstN t) (plDist t)
  head : RdI .i64 w B Ah 19 (plHead t)
  runs : RdR w B Ax (plRuns t).length (plRuns t)
  his : Hi b1 Al ∧ Hi b1 Ad ∧ Hi b1 Ah ∧ Hi b1 Ax
  lo : b1 ≤ G
  hi : G < B
section
variable {w w' : World} {G b1 B : Nat} {t : List Tok} {Al Ad Ah Ax : Option Addr} {cl cd ch cr : Nat}
theorem PlB.below {B' : Nat} (h : PlB w G b1 B t Al Ad Ah Ax cl cd ch cr) (hb : Below B' w w') (hB : B ≤ B') : PlB w' G b1 B t Al Ad Ah Ax cl cd ch cr :=
  ⟨h.box.below hb (Nat.lt_of_lt_of_le h.hi hB), h.lit.below (hb.mono hB), h.dist.below (hb.mono hB), h.head.below (hb.mono hB), h.runs.below (hb.mono hB), h.his, h.lo, h.hi⟩
theorem PlB.chg {S : Nat → Prop} (h : PlB w G b1 B t Al Ad Ah Ax cl cd ch cr) (hc : Chg w w' S) (hB : B ≤ w.heap.size) (hS : ∀ k, S k → k < b1 ∨ B ≤ k) : PlB w' G b1 B t Al Ad Ah Ax cl cd ch cr := by
  have hr : ∀ (A : Option Addr) (n : Nat) (l : List Int), RdI .i64 w B A n l → Hi b1 A → RdI .i64 w' B A n l := fun A n l hl hA => hc.rdI hl hB fun h0 ad e hs => by
    have h1 := hA ad.block (by rw [e]; rfl)
    obtain ⟨ad', e', hb', _⟩ := hl.2 h0
    rw [e] at e'; injection e' with e'; subst e'
    rcases hS _ hs with h | h <;> omega
  refine ⟨hc.ar h.box fun hs => ?_, hr _ _ _ h.lit h.his.1, hr _ _ _ h.dist h.his.2.1, hr _ _ _ h.head h.his.2.2.1, ⟨h.runs.1, fun hm => ?_⟩, h.his, h.lo, h.hi⟩
  · have := h.lo; have := h.hi; rcases hS _ hs with h | h <;> omega
  · obtain ⟨ad, e, hb, hcs⟩ := h.runs.2 hm
    have h1 := h.his.2.2.2 ad.block (by rw [e]; rfl)
    exact ⟨ad, e, hb, fun i hi => (hc.cell (by rw [addr_block]; omega) (by rw [addr_block]; intro hs; rcases hS _ hs with h | h <;> omega)).trans (hcs i hi)⟩
theorem PlB.cells (h : PlB w G b1 B t Al Ad Ah Ax cl cd ch cr) : w.cell? ⟨G, 0, none⟩ = some (.slice Al (litN t) cl) ∧ w.cell? ⟨G, 1, none⟩ = some (.slice Ad (dstN t) cd) ∧ w.cell? ⟨G, 2, none⟩ = some (.slice Ah 19 ch) ∧ w.cell? ⟨G, 3, none⟩ = some (.slice Ax (plRuns t).length cr) ∧ w.cell? ⟨G, 4, none⟩ = some (.int .i64 ((plN t : Nat) : Int)) :=
  ⟨h.box.cell (i := 0) (by omega), h.box.cell (i := 1) (by omega), h.box.cell (i := 2) (by omega), h.box.cell (i := 3) (by omega), h.box.cell (i := 4) (by omega)⟩
theorem PlB.new {w0 : World} {v : Value} {w : World} (h : PlanPost w0 t (.returned v) w) : ∃ Al Ad Ah Ax cl cd ch cr, v = .agg #[.slice Al (litN t) cl, .slice Ad (dstN t) cd, .slice Ah 19 ch, .slice Ax (plRuns t).length cr, .int .i64 ((plN t : Nat) : Int)] ∧ Below w0.heap.size w0 w ∧
    PlB (w.alloc (.cells #[.slice Al (litN t) cl, .slice Ad (dstN t) cd, .slice Ah 19 ch, .slice Ax (plRuns t).length cr, .int .i64 ((plN t : Nat) : Int)] 92)) w.heap.size w0.heap.size (w.heap.size + 1) t Al Ad Ah Ax cl cd ch cr := by
  obtain ⟨Al, cl, Ad, cd, Ah, ch, Ax, cr, e, h1, h2, h3, h4, hb, hhi⟩ := h
  injection e with e
  have hba := (Below.refl w.heap.size w).alloc (Nat.le_refl _) (.cells #[.slice Al (litN t) cl, .slice Ad (dstN t) cd, .slice Ah 19 ch, .slice Ax (plRuns t).length cr, .int .i64 ((plN t : Nat) : Int)] 92)
  exact ⟨Al, Ad, Ah, Ax, cl, cd, ch, cr, e, hb, pnf_new w _ _ _ _ _ _, (h1.below hba).more (Nat.le_succ _), (h2.below hba).more (Nat.le_succ _), (h3.below hba).more (Nat.le_succ _), (h4.below hba).more (Nat.le_succ _), hhi, hb.size, Nat.lt_succ_self _⟩
end
def rnCost (hd : List Int) (r : Rn) : Int := ix hd r.c.toNat + r.e
def rnsCost (hd : List Int) (rs : List Rn) : Int := (rs.map (rnCost hd)).sum
def szP (t : List Tok) : Int := 14 + 3 * ((plN t : Nat) : Int) + rnsCost (plHead t) (plRuns t)
theorem rnsCost_take (hd : List Int) {rs : List Rn} {k : Nat} (h : k < rs.length) : rnsCost hd (rs.take (k + 1)) = rnsCost hd (rs.take k) + rnCost hd (rnAt rs k) := by rw [rn_take h]; simp [rnsCost]
theorem rnsCost_bd {hd : List Int} (hh : ∀ i, i < 19 → 0 ≤ ix hd i ∧ ix hd i ≤ 7) : ∀ rs : List Rn, (∀ r ∈ rs, RnOk r) → 0 ≤ rnsCost hd rs ∧ rnsCost hd rs ≤ 14 * rs.length
  | [], _ => by simp [rnsCost]
  | r :: rs, h => by
    have h1 := rnsCost_bd hh rs fun x hx => h x (List.mem_cons_of_mem _ hx)
    have h2 := h r List.mem_cons_self
    have h3 := hh r.c.toNat (by have := h2.1; omega)
    have h4 := h2.2.2.1
    show 0 ≤ rnCost hd r + rnsCost hd rs ∧ rnCost hd r + rnsCost hd rs ≤ _
    unfold rnCost
    rw [List.length_cons]
    omega
theorem head_in (t : List Tok) : ∀ i, i < 19 → 0 ≤ ix (plHead t) i ∧ ix (plHead t) i ≤ 7 := fun i hi => chk_in (plHead_check t) i (by rw [plHead_len]; exact hi)
set_option maxRecDepth 100000 in
set_option maxHeartbeats 4000000 in
theorem size_any (w : World) (G b1 B : Nat) (t : List Tok) (Al Ad Ah Ax : Option Addr) (cl cd ch cr : Nat) (hp : PlB w G b1 B t Al Ad Ah Ax cl cd ch cr) (ht : t.length < 1048576) (hB : B ≤ w.heap.size) :
    Calls Try.prog 74 #[.pointer (some ⟨G, 0, none⟩)] w fun e w' => e = .returned (.int .i64 (szP t)) ∧ Below w.heap.size w w' := by
  obtain ⟨-, -, -, k3, k4⟩ := hp.cells
  have hN := plN_bd t
  have hrl := plRuns_len t
  have hok := plRuns_ok ht
  have hhi := head_in t
  obtain ⟨n, hn⟩ : ∃ n, plN t = n := ⟨_, rfl⟩
  obtain ⟨rs, hrs⟩ : ∃ r, plRuns t = r := ⟨_, rfl⟩
  obtain ⟨hd, hhd⟩ : ∃ h, plHead t = h := ⟨_, rfl⟩
  obtain ⟨nr, hnr⟩ : ∃ n, rs.length = n := ⟨_, rfl⟩
  have hsz : szP t = 14 + 3 * (n : Int) + rnsCost hd rs := by rw [← hn, ← hrs, ← hhd]; rfl
  rw [hrs] at hrl hok k3
  rw [hhd] at hhi
  rw [hn] at hN k4
  rw [hnr] at hrl k3
  have HRD : Hid (RdR w B Ax nr rs) := by have := hp.runs; rw [hrs, hnr] at this; exact this
  have HHD : Hid (RdI .i64 w B Ah 19 hd) := by have := hp.head; rw [hhd] at this; exact this
  have HBX : Hid (G < w.heap.size ∧ w.cell? ⟨G, 2, none⟩ = some (.slice Ah 19 ch)) := ⟨hp.box.lt, hp.box.cell (i := 2) (by omega)⟩
  have HH := Lib.hid (⟨hB, hok, hhi, hnr⟩ : _ ∧ _ ∧ _ ∧ _)
  have HSZ := Lib.hid hsz
  have hnI : (4 : Int) ≤ (n : Int) ∧ (n : Int) ≤ 19 ∧ (0 : Int) ≤ (nr : Int) ∧ (nr : Int) ≤ 316 := by omega
  clear hp hN hrl hok hhi hn hrs hhd hnr hsz hB ht
  go_enter Try.func74, Try.ntmps74
  go_wp2_with fail
  clear k3 k4
  go_loopg [3, 17] nr (fun (gk : Nat) (v3 v17 : Value) wx => ∃ (k : Nat) (s : Int), v3 = .int .i64 s ∧ v17 = .int .i64 k ∧ k ≤ nr ∧ Hid (s = 14 + 3 * (n : Int) + rnsCost hd (rs.take k)) ∧ Hid (Below w.heap.size w wx) ∧ Hid (gk = nr - k))
  case atStart => exact ⟨0, 14 + 3 * (n : Int), rfl, rfl, Nat.zero_le _, by show _ = _; simp [rnsCost], Below.refl _ _, rfl⟩
  case round =>
    obtain ⟨k, s, rfl, rfl, hk, hs, hb, hg⟩ := hrel
    by_cases hlt : k < nr
    · have hkI : (k : Int) < (nr : Int) ∧ (0 : Int) ≤ (k : Int) := by omega
      have hkl : k < rs.length := by rw [HH.out.2.2.2]; exact hlt
      obtain ⟨ad, hA, hbl, a0, a1, a2⟩ := (HRD.out.below (hb.out.mono HH.out.1)).at3 hlt
      have hok := HH.out.2.1 _ (rnAt_mem hkl)
      have htk := rnsCost_take hd hkl
      have hbd := rnsCost_bd HH.out.2.2.1 (rs.take k) fun r hr => HH.out.2.1 r (List.mem_of_mem_take hr)
      have hle3 : (rs.take k).length ≤ k := by rw [List.length_take]; exact Nat.min_le_left _ _
      obtain ⟨⟨C, V, E⟩, hr⟩ : ∃ r, rnAt rs k = r := ⟨_, rfl⟩
      rw [hr] at a0 a1 a2 hok htk
      have hc0 : 0 ≤ C ∧ C ≤ 18 := hok.1
      have he0 : 0 ≤ E ∧ E ≤ 7 := hok.2.2.1
      obtain ⟨c, rfl⟩ := Int.eq_ofNat_of_zero_le hc0.1
      replace a0 : wr.cell? (ad.add (k * 3)) = some (.int .i64 (c : Int)) := a0
      replace a1 : wr.cell? { block := (ad.add (k * 3)).block, off := (ad.add (k * 3)).off + 1 } = some (.int .i64 V) := a1
      replace a2 : wr.cell? { block := (ad.add (k * 3)).block, off := (ad.add (k * 3)).off + 2 } = some (.int .i64 E) := a2
      have hcb : c < 19 := by omega
      have hcI : (0 : Int) ≤ (c : Int) ∧ (c : Int) < 19 := by omega
      obtain ⟨ah, hAh, hbh, hch⟩ := (HHD.out.below (hb.out.mono HH.out.1)).at_ hcb
      have hch2 : (wr.alloc (.cells #[.int .i64 (c : Int), .int .i64 V, .int .i64 E] 115)).cell? (ah.add c) = some (.int .i64 (ix hd c)) := by
        rw [World.cell?_alloc_lt _ _ _ (by rw [addr_block]; have := hb.out.size; have := HH.out.1; omega)]; exact hch
      have hk2 : (wr.alloc (.cells #[.int .i64 (c : Int), .int .i64 V, .int .i64 E] 115)).cell? ⟨G, 2, none⟩ = some (.slice Ah 19 ch) := by
        rw [World.cell?_alloc_lt _ _ _ (by have := hb.out.size; have := HBX.out.1; show G < _; omega), hb.out.cell (by have := HBX.out.1; exact this)]; exact HBX.out.2
      have hhv := HH.out.2.2.1 c hcb
      obtain ⟨X, hX⟩ : ∃ X, ix hd c = X := ⟨_, rfl⟩
      rw [hX] at hch2 hhv
      have hrc : rnCost hd ⟨(c : Int), V, E⟩ = X + E := by show ix hd (Int.toNat (c : Int)) + E = _; rw [Int.toNat_natCast, hX]
      rw [hrc] at htk
      have HX := Lib.hid (show s + (X + E) = 14 + 3 * (n : Int) + rnsCost hd (rs.take (k + 1)) by rw [htk, hs.out]; omega)
      have hsb : 0 ≤ s ∧ s ≤ 10000 := by have := hs.out; omega
      have hxI : 0 ≤ X + E ∧ X + E ≤ 14 := by omega
      have hbA := Lib.hid (hb.out.alloc hb.out.size (.cells #[.int .i64 (c : Int), .int .i64 V, .int .i64 E] 115))
      have HLT := Lib.hid hlt
      subst hA
      subst hAh
      clear hbl hok htk hr hc0 hbh hch hrc hX hkl hlt hbd hle3
      go_wp2_with fail
      go_quiet (fail)
      go_wp2_with fail
      go_roundg (nr - (k + 1))
      case measure => have := hg.out; have := HLT.out; omega
      case rel => exact ⟨k + 1, s + (X + E), by go_num, by go_num, HLT.out, HX.out, ⟨hbA.out.os, hbA.out.tape, hbA.out.output, hbA.out.size, hbA.out.block⟩, rfl⟩
    · obtain rfl : k = nr := by omega
      have hkI : ¬ (k : Int) < (k : Int) := by omega
      have htk : rs.take k = rs := List.take_of_length_le (by rw [HH.out.2.2.2]; exact Nat.le_refl _)
      have HS : Hid (s = szP t) := by have := hs.out; rw [htk] at this; show _ = _; rw [this, HSZ.out]
      clear hlt htk hs
      go_wp2_with fail
      go_ret
      exact ⟨ret_int HS.out, hb.out⟩
end Go.Proofs.Ytlgkiookobedcaa
namespace Go.Proofs.Ytlgkiookobedcaa
open Go.RowKit
set_option linter.unusedVariables false
def ordB (hd : List Int) (k : Nat) : List Int := (ordQ.take k).flatMap fun (o : Int) => ofN (ix hd o.toNat) 3
def rnB (hd : List Int) (r : Rn) : List Int := symBits hd r.c.toNat ++ ofN r.v r.e.toNat
def rnsB (hd : List Int) (rs : List Rn) : List Int := rs.flatMap (rnB hd)
def planB (t : List Tok) : List Int := ofN (((litN t - 257 : Nat) : Int)) 5 ++ ofN (((dstN t - 1 : Nat) : Int)) 5 ++ ofN (((plN t - 4 : Nat) : Int)) 4 ++ ordB (plHead t) (plN t) ++ rnsB (plHead t) (plRuns t)
theorem ordB_next (hd : List Int) {k : Nat} (h : k < 19) : ordB hd (k + 1) = ordB hd k ++ ofN (ix hd (ix ordQ k).toNat) 3 := by
  have hl : k < ordQ.length := h
  unfold ordB
  rw [List.take_succ_eq_append_getElem hl, List.flatMap_append]
  have e : ix ordQ k = ordQ[k] := by simp [ix, hl]
  rw [e]; simp
theorem ordB_len (hd : List Int) : ∀ k, k ≤ 19 → (ordB hd k).length = 3 * k
  | 0, _ => rfl
  | k + 1, h => by rw [ordB_next hd (by omega), List.length_append, ordB_len hd k (by omega), ofN_length]; omega
theorem rnsB_take (hd : List Int) {rs : List Rn} {k : Nat} (h : k < rs.length) : rnsB hd (rs.take (k + 1)) = rnsB hd (rs.take k) ++ rnB hd (rnAt rs k) := by rw [rn_take h]; simp [rnsB]
theorem rnsB_le {hd : List Int} (hh : ∀ i, i < hd.length → 0 ≤ ix hd i ∧ ix hd i ≤ 15) : ∀ rs : List Rn, (∀ r ∈ rs, RnOk r) → (rnsB hd rs).length ≤ 22 * rs.length
  | [], _ => by simp [rnsB]
  | r :: rs, h => by
    have h1 := rnsB_le hh rs fun x hx => h x (List.mem_cons_of_mem _ hx)
    have h2 := h r List.mem_cons_self
    have h3 := sym_le hh r.c.toNat
    have h4 := h2.2.2.1
    show (rnB hd r ++ rnsB hd rs).length ≤ _
    unfold rnB
    rw [List.length_append, List.length_append, ofN_length, List.length_cons]
    omega
set_option maxRecDepth 100000 in
set_option maxHeartbeats 8000000 in
theorem pwrite_any (w : World) (b0 g n c : Nat) (A : Option Addr) (L : List Int) (hw : Wtr w b0 g A n c L) (G b1 B : Nat) (t : List Tok) (Al Ad Ah Ax : Option Addr) (cl cd ch cr : Nat) (hp : PlB w G b1 B t Al Ad Ah Ax cl cd ch cr) (ht : t.length < 1048576) (hB : B ≤ w.heap.size)
    (hft : ∀ k, foot A g k → k < b1) (hlen : L.length ≤ 3000000000000) :
    Calls Try.prog 50 #[.pointer (some ⟨G, 0, none⟩), .pointer (some ⟨g, 0, none⟩)] w fun e w' => e = .returned (.tuple #[]) ∧ BkS w w' b0 g A (L ++ planB t) := by
  have hbl := litN_bd t
  have hbd := dstN_bd t
  have hbn := plN_bd t
  obtain ⟨V0, hV0⟩ : ∃ v, litN t - 257 = v := ⟨_, rfl⟩
  obtain ⟨V1, hV1⟩ : ∃ v, dstN t - 1 = v := ⟨_, rfl⟩
  obtain ⟨V2, hV2⟩ : ∃ v, plN t - 4 = v := ⟨_, rfl⟩
  have hI : ((litN t : Nat) : Int) - 257 = (V0 : Int) ∧ ((dstN t : Nat) : Int) - 1 = (V1 : Int) ∧ ((plN t : Nat) : Int) - 4 = (V2 : Int) := by omega
  have hVb : V0 ≤ 29 ∧ V1 ≤ 29 ∧ V2 ≤ 15 := by omega
  have HP := Lib.hid (⟨hp, hw, hft, hlen, ht⟩ : _ ∧ _ ∧ _ ∧ _ ∧ _)
  have HPC : Hid (∀ W, Chg w W (foot A g) → PlB W G b1 B t Al Ad Ah Ax cl cd ch cr) := fun W hc => hp.chg hc hB fun k hk => .inl (hft k hk)
  have hplan : Hid (planB t = ofN (V0 : Int) 5 ++ ofN (V1 : Int) 5 ++ ofN (V2 : Int) 4 ++ ordB (plHead t) (plN t) ++ rnsB (plHead t) (plRuns t)) := by show _ = _; rw [← hV0, ← hV1, ← hV2]; rfl
  obtain ⟨k0, k1, k2, k3, k4⟩ := hp.cells
  have HS0 := Lib.hid (BkS.start hw (Below.refl _ w))
  obtain ⟨nl, hnl⟩ : ∃ n, litN t = n := ⟨_, rfl⟩
  obtain ⟨nd, hnd⟩ : ∃ n, dstN t = n := ⟨_, rfl⟩
  obtain ⟨nh, hnh⟩ : ∃ n, plN t = n := ⟨_, rfl⟩
  obtain ⟨nr, hnr⟩ : ∃ n, (plRuns t).length = n := ⟨_, rfl⟩
  rw [hnl, hnd, hnh] at hI
  rw [hnl] at k0
  have hNI : (257 : Int) ≤ (nl : Int) ∧ (nl : Int) ≤ 286 ∧ (1 : Int) ≤ (nd : Int) ∧ (nd : Int) ≤ 30 ∧ (4 : Int) ≤ (nh : Int) ∧ (nh : Int) ≤ 19 := by omega
  obtain ⟨hI0, hI1, hI2⟩ := hI
  have HE := Lib.hid (⟨hnl, hnd, hnh, hnr, hVb, hB⟩ : _ ∧ _ ∧ _ ∧ _ ∧ _ ∧ _)
  have HP1 := Lib.hid (HS0.out.put (V0 : Int) 5 (by omega) (by omega) (by omega))
  clear hp hw hft hbl hbd hbn hV0 hV1 hV2 hVb k1 k2 k3 k4 hnl hnd hnh hnr hlen ht hB
  go_enter Try.func50, Try.ntmps50
  go_wp2_with fail
  refine HP1.out.mono ?_
  rintro e w1 ⟨rfl, h1⟩
  have k1 := (HPC.out _ h1.chg).cells.2.1
  rw [HE.out.2.1] at k1
  have HP2 := Lib.hid (h1.put (V1 : Int) 5 (by have := HE.out.2.2.2.2.1; omega) (by omega) (by rw [List.length_append, ofN_length]; have := HP.out.2.2.2.1; omega))
  clear h1 k0
  go_wp2_with fail
  refine HP2.out.mono ?_
  rintro e w2 ⟨rfl, h2⟩
  have k4 := (HPC.out _ h2.chg).cells.2.2.2.2
  rw [HE.out.2.2.1] at k4
  have HP3 := Lib.hid (h2.put (V2 : Int) 4 (by have := HE.out.2.2.2.2.1; omega) (by omega) (by rw [List.length_append, List.length_append, ofN_length, ofN_length]; have := HP.out.2.2.2.1; omega))
  clear h2 k1
  go_wp2_with fail
  refine HP3.out.mono ?_
  rintro e w3 ⟨rfl, h3⟩
  obtain ⟨L1, hL1⟩ : ∃ l, L ++ ofN (V0 : Int) 5 ++ ofN (V1 : Int) 5 ++ ofN (V2 : Int) 4 = l := ⟨_, rfl⟩
  rw [hL1] at h3
  have HL1 : Hid (L1.length ≤ 3000000000014) := by
    show _ ≤ _
    rw [← hL1]
    simp only [List.length_append, ofN_length]
    have := HP.out.2.2.2.1; omega
  have HPLAN : Hid (L ++ planB t = L1 ++ ordB (plHead t) nh ++ rnsB (plHead t) (plRuns t)) := by
    show _ = _
    rw [hplan.out, ← hL1, HE.out.2.2.1]
    simp only [List.append_assoc]
  have HOR := Lib.hid (order_any w3)
  have HT3 : Hid (BkT w ((w3.alloc (.cells ordC 116)).alloc (.cells ordC 116)) ((w3.alloc (.cells ordC 116)).alloc (.cells ordC 116)) (w3.heap.size + 1) b0 g A L1) := by
    have h9 := BkT.new (h3.alloc (.cells ordC 116)) (.cells ordC 116)
    have e9 : (w3.alloc (.cells ordC 116)).heap.size = w3.heap.size + 1 := by simp
    rw [e9] at h9
    exact h9
  have HSZ : Hid (w3.heap.size + 1 = (w3.alloc (.cells ordC 116)).heap.size) := by show _ = _; simp
  have HOM : Hid (OrdM ((w3.alloc (.cells ordC 116)).alloc (.cells ordC 116)) (w3.heap.size + 1)) := by
    have h9 := OrdM.new (w3.alloc (.cells ordC 116))
    rw [← HSZ.out] at h9
    exact h9
  have k44 := (HPC.out _ HT3.out.chg).cells.2.2.2.2
  rw [HE.out.2.2.1] at k44
  clear hL1 h3 k4 hplan HS0
  go_wp2_with fail
  refine HOR.out.mono ?_
  rintro e w4 ⟨rfl, rfl⟩
  go_wp2_with (refine wpList_ord rfl (.tmp 4) (.tmp 37) rfl rfl (w3.heap.size + 1) HSZ.out rfl rfl _ rfl ?_)
  clear k44
  obtain ⟨go, hgo⟩ : ∃ g, w3.heap.size + 1 = g := ⟨_, rfl⟩
  obtain ⟨wk, hwk⟩ : ∃ W, (w3.alloc (.cells ordC 116)).alloc (.cells ordC 116) = W := ⟨_, rfl⟩
  rw [hwk, hgo] at HT3 HOM
  rw [hwk, hgo]
  clear hwk hgo HSZ HOR
  clear w3
  obtain ⟨hd, hhd⟩ : ∃ h, plHead t = h := ⟨_, rfl⟩
  have hhi : Hid (∀ i, i < 19 → 0 ≤ ix hd i ∧ ix hd i ≤ 7) := fun i hi => by rw [← hhd]; exact head_in t i hi
  have HHD := Lib.hid hhd
  rw [hhd] at HPLAN
  clear hhd
  go_loopg [44] nh (fun (gk : Nat) (v44 : Value) wx => ∃ k : Nat, v44 = .int .i64 k ∧ k ≤ nh ∧ Hid (BkT w wk wx go b0 g A (L1 ++ ordB hd k)) ∧ Hid (gk = nh - k))
  case atStart => exact ⟨0, rfl, Nat.zero_le _, by show BkT _ _ _ _ _ _ _ (L1 ++ []); rw [List.append_nil]; exact HT3.out, rfl⟩
  case round =>
    clear HT3
    obtain ⟨k, rfl, hk, hs, hg⟩ := hrel
    by_cases hlt : k < nh
    · have hkI : (k : Int) < (nh : Int) ∧ (0 : Int) ≤ (k : Int) := by omega
      have hk19 : k < 19 := by omega
      have hor : OrdM wr go := hs.out.kp.trans HOM.out
      have hob := ordQ_bd k hk19
      obtain ⟨K, hK⟩ := Int.eq_ofNat_of_zero_le hob.1
      have c1 := hor.cell hk19
      have hK18 : K < 19 := by omega
      have hpw := HPC.out _ hs.out.chg
      have c2 := hpw.cells.2.2.1
      obtain ⟨ah, hAh, hbh, c3⟩ := hpw.head.at_ hK18
      rw [HHD.out] at c3
      have hXb := hhi.out K hK18
      have hnx := ordB_next hd hk19
      rw [hK, Int.toNat_natCast] at hnx
      rw [hK] at c1
      obtain ⟨X, hX⟩ : ∃ X, ix hd K = X := ⟨_, rfl⟩
      rw [hX] at c3 hXb hnx
      have HPT := Lib.hid (hs.out.put X 3 (by omega) (by omega) (by rw [List.length_append, ordB_len hd k (by omega)]; have := HL1.out; omega))
      have HNX := Lib.hid hnx
      have HLT := Lib.hid hlt
      have hKI : (0 : Int) ≤ (K : Int) ∧ (K : Int) < 19 := by omega
      subst hAh
      clear hor hob hK hbh hnx hX hpw hs hlt
      go_wp2_with fail
      refine HPT.out.mono ?_
      rintro e w5 ⟨rfl, h5⟩
      have H5 := Lib.hid h5
      clear h5 c1 c2 c3
      go_wp2_with fail
      go_roundg (nh - (k + 1))
      case measure => have := hg.out; have := HLT.out; omega
      case rel => exact ⟨k + 1, by go_num, HLT.out, by have h6 := H5.out; rw [List.append_assoc, ← HNX.out] at h6; exact h6, rfl⟩
    · obtain rfl : k = nh := by omega
      have hkI : ¬ (k : Int) < (k : Int) := by omega
      have hs9 := hs.out.old
      have hpw := HPC.out _ hs9.chg
      have hBr : B ≤ wr.heap.size := Nat.le_trans HE.out.2.2.2.2.2 hs9.chg.size
      have c2 := hpw.cells.2.2.1
      have hhr := hpw.head
      rw [HHD.out] at hhr
      have hck := plHead_check t
      rw [HHD.out] at hck
      have HBD := Lib.hid (build_ok wr Ah 19 ch B hd 7 hhr hBr (by omega) hck)
      have HS9 := Lib.hid hs9
      obtain ⟨L2, hL2⟩ : ∃ l, L1 ++ ordB hd k = l := ⟨_, rfl⟩
      have HL2 : Hid (L2.length ≤ 3000000000080 ∧ L1 ++ ordB hd k = L2) := ⟨by rw [← hL2, List.length_append, ordB_len hd k (by have := HP.out; omega)]; have := HL1.out; omega, hL2⟩
      rw [hL2] at HS9 HPLAN
      have hin15 : Hid (∀ i, i < hd.length → 0 ≤ ix hd i ∧ ix hd i ≤ 15) := fun i hi => by have := chk_in hck i hi; omega
      have hlen19 : Hid (hd.length = 19) := by show _ = _; rw [← HHD.out]; exact plHead_len t
      clear hs hs9 hpw hhr hck hL2 hlt hg HOM
      go_wp2_with fail
      refine HBD.out.mono ?_
      rintro e w5 ⟨gt, rfl, hTb, hb5⟩
      obtain ⟨⟨A1, n1, c1, hw1, hA1⟩, hc1⟩ := HS9.out
      have hpl5 : PlB w5 G b1 B t Al Ad Ah Ax cl cd ch cr := HPC.out _ (hc1.trans (S' := fun _ => False) (Chg.of_below hb5) fun k hk => hk.elim)
      have hB5 : B ≤ w5.heap.size := Nat.le_trans HE.out.2.2.2.2.2 (Nat.le_trans hc1.size hb5.size)
      have HPC5 : Hid (∀ W, Chg w5 W (foot A1 g) → PlB W G b1 B t Al Ad Ah Ax cl cd ch cr) := fun W hc => hpl5.chg hc hB5 fun k hk => by
        rcases hk with hk | hk
        · exact .inl (HP.out.2.2.1 k (.inl hk))
        · rcases hA1 k hk with h | h
          · exact .inl (HP.out.2.2.1 k (.inr h))
          · exact .inr (Nat.le_trans HE.out.2.2.2.2.2 h)
      have HTB : Hid (Tab w5 wr.heap.size w5.heap.size gt hd ∧ ∀ k, wr.heap.size ≤ k → k < w5.heap.size → ¬ foot A1 g k) := ⟨hTb, fun k h1 _ hk => by have := (hw1.foot_lo hk).2; omega⟩
      have HS5 := Lib.hid (show BkS w5 w5 b0 g A1 L2 from ⟨⟨A1, n1, c1, hw1.keeps hb5, fun k hk => .inl hk⟩, Chg.refl _ _⟩)
      have HC5 : Hid (Chg w w5 (foot A g) ∧ ∀ k, blkOf A1 = some k → blkOf A = some k ∨ w.heap.size ≤ k) := ⟨hc1.trans (S' := fun _ => False) (Chg.of_below hb5) fun k hk => hk.elim, hA1⟩
      have k3 := hpl5.cells.2.2.2.1
      rw [HE.out.2.2.2.1] at k3
      obtain ⟨rs, hrs⟩ : ∃ r, plRuns t = r := ⟨_, rfl⟩
      have hrl := plRuns_len t
      have hok := plRuns_ok HP.out.2.2.2.2
      rw [hrs] at hrl hok HPLAN
      have hnr : rs.length = nr := by rw [← hrs]; exact HE.out.2.2.2.1
      have HRS := Lib.hid (⟨hrs, hnr, hok, hrl⟩ : _ ∧ _ ∧ _ ∧ _)
      have hnrI : (0 : Int) ≤ (nr : Int) ∧ (nr : Int) ≤ 316 := by omega
      clear hTb hb5 hw1 hA1 hc1 hpl5 hB5 hrs hnr hok hrl c2 HBD HS9 HPC
      go_wp2_with fail
      clear k3
      go_loopg [72] nr (fun (gk : Nat) (v72 : Value) wx => ∃ k : Nat, v72 = .int .i64 k ∧ k ≤ nr ∧ Hid (BkS w5 wx b0 g A1 (L2 ++ rnsB hd (rs.take k))) ∧ Hid (gk = nr - k))
      case atStart => exact ⟨0, rfl, Nat.zero_le _, by show BkS _ _ _ _ _ (L2 ++ []); rw [List.append_nil]; exact HS5.out, rfl⟩
      case round =>
        clear HS5
        rename World => wz
        obtain ⟨k, rfl, hk, hs, hg⟩ := hrel
        by_cases hlt : k < nr
        · have hkI : (k : Int) < (nr : Int) ∧ (0 : Int) ≤ (k : Int) := by omega
          have hkl : k < rs.length := by rw [HRS.out.2.1]; exact hlt
          have hrr := (HPC5.out _ hs.out.chg).runs
          rw [HRS.out.1, HRS.out.2.1] at hrr
          obtain ⟨ad, hA, hbl, a0, a1, a2⟩ := hrr.at3 hlt
          have hok := HRS.out.2.2.1 _ (rnAt_mem hkl)
          have htk := rnsB_take hd hkl
          have hle := rnsB_le hin15.out (rs.take k) fun r hr => HRS.out.2.2.1 r (List.mem_of_mem_take hr)
          have hle3 : (rs.take k).length ≤ k := by rw [List.length_take]; exact Nat.min_le_left _ _
          obtain ⟨⟨C, V, E⟩, hr⟩ : ∃ r, rnAt rs k = r := ⟨_, rfl⟩
          rw [hr] at a0 a1 a2 hok htk
          have hc0 : 0 ≤ C ∧ C ≤ 18 := hok.1
          have hv0 : 0 ≤ V ∧ V < 128 := hok.2.1
          have he0 : 0 ≤ E ∧ E ≤ 7 := hok.2.2.1
          obtain ⟨c, rfl⟩ := Int.eq_ofNat_of_zero_le hc0.1
          obtain ⟨ee, rfl⟩ := Int.eq_ofNat_of_zero_le he0.1
          replace a0 : wz.cell? (ad.add (k * 3)) = some (.int .i64 (c : Int)) := a0
          replace a1 : wz.cell? { block := (ad.add (k * 3)).block, off := (ad.add (k * 3)).off + 1 } = some (.int .i64 V) := a1
          replace a2 : wz.cell? { block := (ad.add (k * 3)).block, off := (ad.add (k * 3)).off + 2 } = some (.int .i64 (ee : Int)) := a2
          have hrb : rnB hd ⟨(c : Int), V, (ee : Int)⟩ = symBits hd c ++ ofN V ee := rfl
          rw [hrb] at htk
          have hT0 := BkT.new hs.out (.cells #[.int .i64 (c : Int), .int .i64 V, .int .i64 (ee : Int)] 115)
          have hbx := rnf_new wz ⟨(c : Int), V, (ee : Int)⟩ 115
          have hlen : (L2 ++ rnsB hd (rs.take k)).length ≤ 3000000010000 := by rw [List.length_append]; have := HL2.out.1; have := HRS.out.2.2.2; have := HRS.out.2.1; omega
          have hsym := sym_le hin15.out c
          have HY := Lib.hid (hT0.sym HTB.out.1 (Nat.le_refl _) HTB.out.2 c (by rw [hlen19.out]; omega) hin15.out (by omega))
          have HNX := Lib.hid htk
          have HLEN := Lib.hid (⟨hlen, hsym⟩ : _ ∧ _)
          have HBX := Lib.hid hbx
          have HLT := Lib.hid hlt
          have hvI : (0 : Int) ≤ (c : Int) ∧ (c : Int) ≤ 18 ∧ 0 ≤ V ∧ V < 128 ∧ (0 : Int) ≤ (ee : Int) ∧ (ee : Int) ≤ 7 := by omega
          subst hA
          clear hkl hrr hbl hok htk hle hle3 hr hc0 hv0 he0 hrb hT0 hbx hlen hsym hs hlt
          go_wp2_with fail
          refine HY.out.mono ?_
          rintro e w6 ⟨⟨b6, rfl⟩, h6⟩
          have d1 : w6.cell? ⟨wz.heap.size, 1, none⟩ = some (.int .i64 V) := h6.cell HBX.out (i := 1) (by omega)
          have d2 : w6.cell? ⟨wz.heap.size, 2, none⟩ = some (.int .i64 (ee : Int)) := h6.cell HBX.out (i := 2) (by omega)
          have HPT := Lib.hid (h6.put V ee (by omega) (by omega) (by rw [List.length_append]; have := HLEN.out; omega))
          clear h6 a0 a1 a2
          go_wp2_with fail
          refine HPT.out.mono ?_
          rintro e w7 ⟨rfl, h7⟩
          have H7 := Lib.hid (show BkS w5 w7 b0 g A1 (L2 ++ rnsB hd (rs.take (k + 1))) from by
            have h8 := h7.old
            rw [HNX.out]
            simpa [List.append_assoc] using h8)
          clear h7 d1 d2
          go_wp2_with fail
          go_roundg (nr - (k + 1))
          case measure => have := hg.out; have := HLT.out; omega
          case rel => exact ⟨k + 1, by go_num, HLT.out, H7.out, rfl⟩
        · obtain rfl : k = nr := by omega
          have hkI : ¬ (k : Int) < (k : Int) := by omega
          have htk : rs.take k = rs := List.take_of_length_le (by rw [HRS.out.2.1]; exact Nat.le_refl _)
          have hfin : Hid (BkS w wz b0 g A (L ++ planB t)) := by
            have h9 := hs.out
            rw [htk] at h9
            obtain ⟨⟨A2, n2, c2, q1, q2⟩, q3⟩ := h9
            have h10 := BkS.next HC5.out.1 HC5.out.2 q1 q3 q2
            rw [← HPLAN.out] at h10
            exact h10
          clear hlt htk hs
          go_wp2_with fail
          go_end0
          exact ⟨rfl, hfin.out⟩
end Go.Proofs.Ytlgkiookobedcaa
namespace Go.Proofs.Ytlgkiookobedcaa
open Go.RowKit
set_option linter.unusedVariables false
structure HdS (t t' : IS) : Prop where
  last : t'.last = t.last
  all : t'.all = t.all
  rem : t'.rem = t.rem
  kinds : t'.kinds = t.kinds
  stops : t'.stops = t.stops
  toks : t'.toks = t.toks
theorem HdS.rfl' (t : IS) : HdS t t := ⟨rfl, rfl, rfl, rfl, rfl, rfl⟩
theorem HdS.trans {a b c : IS} (h : HdS a b) (h' : HdS b c) : HdS a c := ⟨h'.1.trans h.1, h'.2.trans h.2, h'.3.trans h.3, h'.4.trans h.4, h'.5.trans h.5, h'.6.trans h.6⟩
section
variable {t : IS} {y hd : List Int}
theorem numP14 {a b c : Nat} (ha : a < 32) (hb : b < 32) (hc : c < 16) (z : List Int) : num (ofN (a : Int) 5 ++ (ofN (b : Int) 5 ++ (ofN (c : Int) 4 ++ z))) 14 = a + 32 * (b + 32 * c) := by
  have e : ofN (a : Int) 5 ++ (ofN (b : Int) 5 ++ (ofN (c : Int) 4 ++ z)) = (ofN (a : Int) 5 ++ (ofN (b : Int) 5 ++ ofN (c : Int) 4)) ++ z := by simp only [List.append_assoc]
  rw [e, num_is (by simp only [List.length_append, ofN_length]), numI_append, numI_append, ofN_length, ofN_length, numI_ofN, numI_ofN, numI_ofN]
  have e5 : (2 : Int) ^ 5 = 32 := by decide
  have e4 : (2 : Int) ^ 4 = 16 := by decide
  rw [e5, e4]
  omega
theorem sizes_step {a b c : Nat} (hst : t.st = 3) (hx : t.x = ofN (a : Int) 5 ++ (ofN (b : Int) 5 ++ (ofN (c : Int) 4 ++ y))) (ha : a ≤ 29) (hb : b ≤ 29) (hc : c < 16) :
    t.step = ({ t with x := y, c0 := a + 257, c1 := b + 1, c2 := c + 4, lens := [], st := 4 }, 0) := by
  unfold IS.step
  rw [if_neg (by omega), if_neg (by omega), if_neg (by omega), if_pos hst]
  unfold IS.sizes
  have hn := numP14 (show a < 32 by omega) (show b < 32 by omega) hc y
  have hd : (ofN (a : Int) 5 ++ (ofN (b : Int) 5 ++ (ofN (c : Int) 4 ++ y))).drop 14 = y := by
    have e : ofN (a : Int) 5 ++ (ofN (b : Int) 5 ++ (ofN (c : Int) 4 ++ y)) = (ofN (a : Int) 5 ++ (ofN (b : Int) 5 ++ ofN (c : Int) 4)) ++ y := by simp only [List.append_assoc]
    rw [e, drop_len (by simp only [List.length_append, ofN_length])]
  rw [hx, hn, hd, if_neg (by simp only [List.length_append, ofN_length]; omega), if_neg (by omega), show (a + 32 * (b + 32 * c)) % 32 = a by omega, show (a + 32 * (b + 32 * c)) / 32 % 32 = b by omega, show (a + 32 * (b + 32 * c)) / 1024 = c by omega]
def ordL (hd : List Int) (k : Nat) : List Int := (ordQ.take k).map fun o => ix hd o.toNat
theorem ordL_len (hd : List Int) {k : Nat} (h : k ≤ 19) : (ordL hd k).length = k := by
  unfold ordL
  rw [List.length_map, List.length_take]
  show min k 19 = k
  omega
theorem ordL_next (hd : List Int) {k : Nat} (h : k < 19) : ordL hd (k + 1) = ordL hd k ++ [ix hd (ix ordQ k).toNat] := by
  have hl : k < ordQ.length := h
  unfold ordL
  rw [List.take_succ_eq_append_getElem hl, List.map_append]
  have e : ix ordQ k = ordQ[k] := by simp [ix, hl]
  rw [e]; rfl
theorem ordB_split (hd : List Int) {k n : Nat} (hk : k < n) (hn : n ≤ 19) : (ordQ.take n).drop k = ix ordQ k :: (ordQ.take n).drop (k + 1) := by
  have hl : k < (ordQ.take n).length := by rw [List.length_take]; show k < min n 19; omega
  rw [List.drop_eq_getElem_cons hl]
  congr 1
  have : k < ordQ.length := by show k < 19; omega
  simp [ix, this]
def ordF (hd : List Int) (k n : Nat) : List Int := ((ordQ.take n).drop k).flatMap fun (o : Int) => ofN (ix hd o.toNat) 3
theorem ordF_zero (hd : List Int) (n : Nat) : ordF hd 0 n = ordB hd n := rfl
theorem ordF_next (hd : List Int) {k n : Nat} (hk : k < n) (hn : n ≤ 19) : ordF hd k n = ofN (ix hd (ix ordQ k).toNat) 3 ++ ordF hd (k + 1) n := by
  unfold ordF
  rw [ordB_split hd hk hn]; rfl
theorem ordF_end (hd : List Int) (n : Nat) (hn : n ≤ 19) : ordF hd n n = [] := by
  unfold ordF
  rw [List.drop_of_length_le (by rw [List.length_take]; show min n 19 ≤ n; omega)]; rfl
theorem heads_steps {n : Nat} (hn : n ≤ 19) (hin : ∀ i, i < 19 → 0 ≤ ix hd i ∧ ix hd i ≤ 7) : ∀ (j k : Nat) (t : IS), j = n - k → k ≤ n → t.st = 4 → t.c2 = n → t.lens = ordL hd k → t.x = ordF hd k n ++ y →
    ∃ t', IS.Steps t t' ∧ HdS t t' ∧ t'.st = 4 ∧ t'.c2 = n ∧ t'.lens = ordL hd n ∧ t'.x = y ∧ t'.c0 = t.c0 ∧ t'.c1 = t.c1
  | 0, k, t, hj, hk, hst, hc, hl, hx => by
    obtain rfl : k = n := by omega
    rw [ordF_end hd k hn, List.nil_append] at hx
    exact ⟨t, .refl t, HdS.rfl' t, hst, hc, hl, hx, rfl, rfl⟩
  | j + 1, k, t, hj, hk, hst, hc, hl, hx => by
    have hkn : k < n := by omega
    rw [ordF_next hd hkn hn, List.append_assoc] at hx
    have hob := ordQ_bd k (by omega)
    have hb := hin (ix ordQ k).toNat (by omega)
    obtain ⟨v, hv⟩ := Int.eq_ofNat_of_zero_le hb.1
    have hnum : num t.x 3 = v := by
      rw [hx, num_is (ofN_length _ _), numI_ofN, hv]
      have e3 : (2 : Int) ^ 3 = 8 := by decide
      rw [e3]; omega
    have e : t.step = ({ t with x := ordF hd (k + 1) n ++ y, lens := ordL hd (k + 1) }, 0) := by
      unfold IS.step
      rw [if_neg (by omega), if_neg (by omega), if_neg (by omega), if_neg (by omega), if_pos hst]
      unfold IS.heads
      rw [hl, ordL_len hd (by omega), hc, if_pos hkn, if_neg (by rw [hx, List.length_append, ofN_length]; omega), hnum, hx, drop_len (ofN_length _ _), ordL_next hd (by omega), hv]
    have s1 := IS.Steps.one (s := t) (by rw [e])
    rw [e] at s1
    obtain ⟨t', s2, h2, r⟩ := heads_steps hn hin j (k + 1) { t with x := ordF hd (k + 1) n ++ y, lens := ordL hd (k + 1) } (by omega) (by omega) hst hc rfl rfl
    exact ⟨t', s1.trans s2, (show HdS t { t with x := ordF hd (k + 1) n ++ y, lens := ordL hd (k + 1) } from ⟨rfl, rfl, rfl, rfl, rfl, rfl⟩).trans h2, r⟩
theorem hOrd_ix : ∀ s, s < 19 → hOrd.idxOf s < 19 ∧ (ix ordQ (hOrd.idxOf s)).toNat = s := by decide +kernel
theorem hAll_ord {n : Nat} (hn : n ≤ 19) (hlen : hd.length = 19) (hz : ∀ i, n ≤ i → i < 19 → ix hd (ix ordQ i).toNat = 0) : hAll (ordL hd n) = hd := by
  refine pln_ext (by unfold hAll; rw [List.length_map, List.length_range, hlen]) fun s hs => ?_
  have hs19 : s < 19 := by unfold hAll at hs; rw [List.length_map, List.length_range] at hs; exact hs
  unfold hAll
  rw [ix_map _ hs19]
  obtain ⟨o1, o2⟩ := hOrd_ix s hs19
  by_cases h : hOrd.idxOf s < n
  · have e1 : ∀ (L : List Int) (g : Int → Int) (i : Nat), i < L.length → ix (L.map g) i = g (ix L i) := fun L g i hi => by simp [ix, hi]
    unfold ordL
    rw [e1 _ _ _ (by rw [List.length_take]; show _ < min n 19; omega), ix_takeB h, o2]
  · have e : ix (ordL hd n) (hOrd.idxOf s) = 0 := by
      unfold ix
      rw [List.getD_eq_getElem?_getD, List.getElem?_eq_none (by rw [ordL_len hd hn]; omega)]; rfl
    rw [e, ← hz _ (by omega) o1, o2]
theorem heads_end (hst : t.st = 4) (hc : t.lens.length = t.c2) (hA : hAll t.lens = hd) (hck : checkOf hd 7 = 0) (hnn : noneB t.lens = false) : t.step = ({ t with hd := hd, lens := [], st := 5 }, 0) := by
  unfold IS.step
  rw [if_neg (by omega), if_neg (by omega), if_neg (by omega), if_neg (by omega), if_pos hst]
  unfold IS.heads
  rw [if_neg (by omega), hA, if_neg (by rw [hck, hnn]; simp)]
theorem run_step {r : Rn} {acc : List Int} (hst : t.st = 5) (hhd : t.hd = hd) (hck : checkOf hd 7 = 0) (hacc : t.lens = acc) (hx : t.x = rnB hd r ++ y) (hok : RnOk r) (h16 : r.c = 16 → 0 < acc.length) (hs1 : 1 ≤ ix hd r.c.toNat) (hlt : acc.length < t.c0 + t.c1) (hle : (decR acc r).length ≤ t.c0 + t.c1) :
    t.step = ({ t with x := y, lens := decR acc r }, 0) := by
  obtain ⟨C, V, E⟩ := r
  obtain ⟨o1, o2, o3, o4, o5, o6, o7, o8⟩ := hok
  dsimp only at o1 o2 o3 o4 o5 o6 o7 o8 h16 hs1
  obtain ⟨c, rfl⟩ := Int.eq_ofNat_of_zero_le o1.1
  obtain ⟨v, rfl⟩ := Int.eq_ofNat_of_zero_le o2.1
  rw [Int.toNat_natCast] at hs1
  have hx' : t.x = symBits hd c ++ (ofN (v : Int) E.toNat ++ y) := by rw [hx]; unfold rnB; rw [List.append_assoc]; rfl
  obtain ⟨n1, n2⟩ := next_bits7 hck hs1 (ofN (v : Int) E.toNat ++ y)
  unfold IS.step
  rw [if_neg (by omega), if_neg (by omega), if_neg (by omega), if_neg (by omega), if_neg (by omega), if_pos hst]
  unfold IS.lengths
  rw [hacc, if_pos hlt]
  unfold IS.length
  rw [hhd, hx', n1]
  simp only
  rw [if_neg (by decide), n2]
  by_cases hc16 : (c : Int) < 16
  · obtain ⟨rfl, rfl⟩ : v = 0 ∧ E = 0 := by obtain ⟨a, b⟩ := o5 (by omega); exact ⟨by omega, b⟩
    rw [if_pos hc16, hacc]
    unfold decR
    rw [if_pos hc16]
    rfl
  · have hw : IS.rW (c : Int) = E.toNat := by
      unfold IS.rW
      obtain h | h | h : (c : Int) = 16 ∨ (c : Int) = 17 ∨ (c : Int) = 18 := by omega
      · rw [if_neg (by omega), if_neg (by omega), o6 h]; rfl
      · rw [if_pos h, o7 h]; rfl
      · rw [if_neg (by omega), if_pos h, o8 h]; rfl
    have hnv : num (ofN (v : Int) E.toNat ++ y) E.toNat = v := by
      rw [num_is (ofN_length _ _), numI_ofN, Int.emod_eq_of_lt (by omega) o4]; rfl
    have hdec : decR acc ⟨(c : Int), (v : Int), E⟩ = acc ++ List.replicate (IS.rB (c : Int) + v) (if (c : Int) = 16 then ix acc (acc.length - 1) else 0) := by
      unfold decR
      rw [if_neg hc16]
      simp only [Int.toNat_natCast]
    rw [hdec] at hle ⊢
    rw [List.length_append, List.length_replicate] at hle
    rw [if_neg hc16, hacc, if_neg (by rintro ⟨h1, h2⟩; have := h16 h1; omega), hw, if_neg (by rw [List.length_append, ofN_length]; omega)]
    unfold IS.repeat_
    rw [hw, hnv, hacc, if_neg (by omega), drop_len (ofN_length _ _), hhd]
theorem decR_lt (acc : List Int) {r : Rn} (h : RnOk r) : acc.length < (decR acc r).length := by
  unfold decR
  split
  · simp
  · rw [List.length_append, List.length_replicate]
    unfold IS.rB
    split <;> omega
theorem fold_le (rs : List Rn) : ∀ acc : List Int, okR acc rs → acc.length ≤ (rs.foldl decR acc).length := by
  induction rs with
  | nil => intro acc _; exact Nat.le_refl _
  | cons r rs ih =>
    intro acc h
    have := ih (decR acc r) h.2.2
    have := decR_lt acc h.1
    rw [List.foldl_cons]; omega
theorem runs_steps (hck : checkOf hd 7 = 0) : ∀ (rs : List Rn) (t : IS) (acc : List Int), t.st = 5 → t.hd = hd → t.lens = acc → t.x = rnsB hd rs ++ y → okR acc rs → (∀ r ∈ rs, 1 ≤ ix hd r.c.toNat) → (rs.foldl decR acc).length = t.c0 + t.c1 →
    ∃ t', IS.Steps t t' ∧ HdS t t' ∧ t'.st = 5 ∧ t'.lens = rs.foldl decR acc ∧ t'.x = y ∧ t'.c0 = t.c0 ∧ t'.c1 = t.c1
  | [], t, acc, hst, hhd, hacc, hx, _, _, _ => ⟨t, .refl t, HdS.rfl' t, hst, hacc, by rw [hx]; rfl, rfl, rfl⟩
  | r :: rs, t, acc, hst, hhd, hacc, hx, hok, hs, hlen => by
    obtain ⟨k1, k2, k3⟩ := hok
    have hx' : t.x = rnB hd r ++ (rnsB hd rs ++ y) := by
      rw [hx]
      show (rnB hd r ++ rnsB hd rs) ++ y = _
      rw [List.append_assoc]
    rw [List.foldl_cons] at hlen
    have h1 := fold_le rs (decR acc r) k3
    have h2 := decR_lt acc k1
    have e := run_step hst hhd hck hacc hx' k1 k2 (hs r List.mem_cons_self) (by omega) (by omega)
    have s1 := IS.Steps.one (s := t) (by rw [e])
    rw [e] at s1
    obtain ⟨t', s2, q2, r'⟩ := runs_steps hck rs { t with x := rnsB hd rs ++ y, lens := decR acc r } (decR acc r) hst hhd rfl rfl k3 (fun r hr => hs r (List.mem_cons_of_mem _ hr)) hlen
    exact ⟨t', s1.trans s2, (show HdS t { t with x := rnsB hd rs ++ y, lens := decR acc r } from ⟨rfl, rfl, rfl, rfl, rfl, rfl⟩).trans q2, r'⟩
theorem plan_end {l d : List Int} (hst : t.st = 5) (hl : t.lens = l ++ d) (h0 : t.c0 = l.length) (h1 : t.c1 = d.length) (hcl : checkOf l 15 = 0) (hcd : checkOf d 15 = 0) (h256 : 1 ≤ ix l 256) : t.step = ({ t with lt := l, ds := d, st := 6 }, 0) := by
  unfold IS.step
  rw [if_neg (by omega), if_neg (by omega), if_neg (by omega), if_neg (by omega), if_neg (by omega), if_pos hst]
  unfold IS.lengths
  have e1 : (l ++ d).take l.length = l := List.take_left
  have e2 : (l ++ d).drop l.length = d := List.drop_left
  have e3 : ix (l ++ d) 256 = ix l 256 := by rw [ix_append, if_pos (sym_pos h256)]
  rw [hl, h0, h1, if_neg (by rw [List.length_append]; omega), e1, e2, e3, hcl, hcd, if_neg (by omega)]
end
end Go.Proofs.Ytlgkiookobedcaa
