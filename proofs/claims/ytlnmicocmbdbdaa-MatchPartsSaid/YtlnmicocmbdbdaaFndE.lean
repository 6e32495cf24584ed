/-
  The walk of the finder's next.
-/
import Derived.Test.YtlnmicocmbdbdaaFndD
namespace Go.Proofs.Ytlnmicocmbdbdaa
open Go.RowKit Go.Maps
set_option linter.unusedVariables false

/-- a token's cells -/
def tkT (a b c : Int) : Nat → Value
  | 0 => .int .u8 a
  | 1 => .int .i64 b
  | _ => .int .i64 c
theorem new_tkT (w : World) (a b c : Int) : Ar (w.alloc (.cells #[.int .u8 a, .int .i64 b, .int .i64 c] 32)) w.heap.size 3 (tkT a b c) :=
  Ar.new w #[.int .u8 a, .int .i64 b, .int .i64 c] 32 (show (#[.int .u8 a, .int .i64 b, .int .i64 c] : Array Value).size = 3 from rfl) fun i hi => by
    obtain rfl | rfl | rfl : i = 0 ∨ i = 1 ∨ i = 2 := by omega
    all_goals rfl
theorem tkT_cells {w : World} {g : Nat} {a b c : Int} (h : Ar w g 3 (tkT a b c)) : w.cell? ⟨g, 0, none⟩ = some (.int .u8 a) ∧ w.cell? ⟨g, 1, none⟩ = some (.int .i64 b) ∧ w.cell? ⟨g, 2, none⟩ = some (.int .i64 c) ∧
    w.frozen? ⟨g, 0, none⟩ = false ∧ w.frozen? ⟨g, 1, none⟩ = false ∧ w.frozen? ⟨g, 2, none⟩ = false :=
  ⟨h.cell (i := 0) (by omega), h.cell (i := 1) (by omega), h.cell (i := 2) (by omega), h.frozen' (i := 0) (by omega), h.frozen' (i := 1) (by omega), h.frozen' (i := 2) (by omega)⟩
/-- what next leaves -/
def NextPost (w : World) (b0 g : Nat) (e : Eff) (R : Tok × FSt) (A : Option Addr) (n c gm : Nat) (Ap : Option Addr) (np cp : Nat) (r : Ending) (w' : World) : Prop :=
  r = .returned (.agg #[.int .u8 R.1.lit, .int .i64 R.1.len, .int .i64 R.1.dist]) ∧ (∃ nm Dm, FndC w' b0 g e R.2 R.2.at_ A n c gm nm Dm Ap np cp) ∧ Chg w w' (FF A gm Ap g)
section
variable {w w' w1 w2 : World} {b0 g b n c gm nm np cp : Nat} {e : Eff} {st : FSt} {A Ap : Option Addr} {Dm : DataW Unit}
theorem next_fin {wX : World} {F : Nat → Value} {a x y : Int} {st' : FSt} (h : FndC w b0 g e st b A n c gm nm Dm Ap np cp) {nm' : Nat} {Dm' : DataW Unit} (hX : FndC wX b0 g e st' st'.at_ A n c gm nm' Dm' Ap np cp) (hc : Chg w wX (FF A gm Ap g)) (ar : Ar wX w.heap.size 3 F) :
    NextPost w b0 g e (⟨a, x, y⟩, st') A n c gm Ap np cp (.returned (.agg #[.int .u8 a, .int .i64 x, .int .i64 y])) (((wX.setCell ⟨w.heap.size, 0, none⟩ (.int .u8 a)).setCell ⟨w.heap.size, 1, none⟩ (.int .i64 x)).setCell ⟨w.heap.size, 2, none⟩ (.int .i64 y)) := by
  have hs : Chg wX (((wX.setCell ⟨w.heap.size, 0, none⟩ (.int .u8 a)).setCell ⟨w.heap.size, 1, none⟩ (.int .i64 x)).setCell ⟨w.heap.size, 2, none⟩ (.int .i64 y)) (fun k => k = w.heap.size) :=
    (((Chg.refl wX (fun k => k = w.heap.size)).setCell (p := ⟨w.heap.size, 0, none⟩) (.inl rfl) _).setCell (p := ⟨w.heap.size, 1, none⟩) (.inl rfl) _).setCell (p := ⟨w.heap.size, 2, none⟩) (.inl rfl) _
  exact ⟨rfl, ⟨nm', Dm', hX.chg hs fun k hk e => by have := (h.foot_lo hk).2; omega⟩, hc.trans hs fun k hk => .inr (by omega)⟩
set_option maxRecDepth 100000 in
set_option maxHeartbeats 4000000 in
theorem next_any (h : FndC w b0 g e st st.at_ A n c gm nm Dm Ap np cp) (hlt : st.at_ < st.D.length) :
    Calls Try.prog 20 #[.pointer (some ⟨g, 0, none⟩)] w (NextPost w b0 g e (nextF e st) A n c gm Ap np cp) := by
  have hgood := best_good (e := e) h.ok
  obtain ⟨N1, hN1, -, hN3, hok2, hD2, hat2, hbase2, -⟩ := next_ok (e := e) h.ok hlt
  have hnext : nextF e st = (if (bestOf e st st.at_).1 = 0 then (litAt st, passF e 1 st)
    else if e.lazy = true ∧ (bestOf e st st.at_).1 < e.nice ∧ st.at_ + 1 < st.D.length then
      (if (bestOf e st st.at_).1 < (bestOf e (enterF e st st.at_) (st.at_ + 1)).1 then (litAt st, moved (enterF e st st.at_))
      else (⟨0, (bestOf e st st.at_).1, (bestOf e st st.at_).2⟩, passF e ((bestOf e st st.at_).1 - 1) (moved (enterF e st st.at_))))
    else (⟨0, (bestOf e st st.at_).1, (bestOf e st st.at_).2⟩, passF e (bestOf e st st.at_).1 st)) := rfl
  obtain ⟨R, hR⟩ : ∃ R, nextF e st = R := ⟨_, rfl⟩
  obtain ⟨B, hB⟩ : ∃ B, bestOf e st st.at_ = B := ⟨_, rfl⟩
  rw [hB] at hgood
  rw [hR, hB] at hnext
  rw [hR]
  obtain ⟨L, d⟩ := B
  have hLb : L ≤ 258 ∧ d ≤ 32768 ∧ st.at_ + L ≤ st.D.length := by
    rcases hgood with ⟨h1, h2⟩ | ⟨-, h1, h2, -, h3, -⟩
    · dsimp only at h1 h2; omega
    · dsimp only at h1 h2 h3; omega
  have hLI : (0 : Int) ≤ L ∧ (L : Int) ≤ 258 ∧ (0 : Int) ≤ d ∧ (d : Int) ≤ 32768 := by omega
  have hgs := h.cell.lt
  have hb0 := (Below.refl w.heap.size w).alloc (Nat.le_refl _) (.cells #[.int .u8 0, .int .i64 0, .int .i64 0] 32)
  have h0 := h.keeps hb0
  have ar0 := new_tkT w 0 0 0
  have hbest := best_any st.at_ h0 h.ok.lo
  rw [hB] at hbest
  have hbig := h.big
  obtain ⟨T, hT⟩ : ∃ T, st.at_ = T := ⟨_, rfl⟩
  have hTI : (0 : Int) ≤ T ∧ (T : Int) ≤ 100000000000 := by omega
  obtain ⟨c0, c1, c2, c3, c4, c5, c6, c7⟩ := ff_c h
  rw [hT] at c5
  have HNX := Lib.hid hnext
  have HB := Lib.hid hB
  have HT := Lib.hid hT
  obtain ⟨v, hv⟩ : ∃ v, ix st.D st.at_ = v := ⟨_, rfl⟩
  have hlit : Hid (litAt st = ⟨v, 0, 0⟩) := by show _ = _; unfold litAt; rw [hv]
  rw [hT] at hbest
  have hget : ∀ W, FndC W b0 g e st st.at_ A n c gm nm Dm Ap np cp → Calls Try.prog 22 #[.pointer (some ⟨g, 0, none⟩), .int .i64 T] W fun r w' => r = .returned (.int .u8 v) ∧ ∃ q, w' = W.drewN q := fun W hf => by
    have := get_any hf st.at_ h.ok.lo hlt
    rwa [hv, hT] at this
  have hltH := Lib.hid hlt
  clear hnext hB hT hv hgood hok2 hD2 hat2 hbase2 hN3 hN1 hlt hR
  go_enter Try.func20, Try.ntmps20
  go_wp2_with fail
  refine hbest.mono ?_
  rintro r w1 ⟨rfl, hb1⟩
  dsimp only
  have hb01 := hb0.trans (hb1.mono hb0.size)
  have ar1 := ar0.keeps hb1
  have hbt := hb01.alloc hb01.size (.cells #[.int .u8 0, .int .i64 L, .int .i64 d] 32)
  have hft := h.keeps hbt
  have c5t := (ff_c hft).2.2.2.2.2.1
  rw [HT.out] at c5t
  have at1 := new_tkT w1 0 L d
  have ar2 := ar1.alloc (.cells #[.int .u8 0, .int .i64 L, .int .i64 d] 32)
  obtain ⟨G, hG⟩ : ∃ G, w1.heap.size = G := ⟨_, rfl⟩
  have hgG : g < G := by have := hb01.size; omega
  have hwG : w.heap.size < G := by have := ar1.lt; omega
  rw [hG] at at1
  go_wp2_with fail
  refine (hget _ hft).mono ?_
  rintro r w2 ⟨rfl, q2, rfl⟩
  go_upto_region 3 with fail
  have hb3 := (below_drewN hbt q2).alloc (below_drewN hbt q2).size (.cells #[.int .u8 v, .int .i64 0, .int .i64 0] 32)
  have ar3 := (ar2.drewN q2).alloc (.cells #[.int .u8 v, .int .i64 0, .int .i64 0] 32)
  have at3 := (at1.drewN q2).alloc (.cells #[.int .u8 v, .int .i64 0, .int .i64 0] 32)
  have al3 := new_tkT ((w1.alloc (.cells #[.int .u8 0, .int .i64 L, .int .i64 d] 32)).drewN q2) v 0 0
  have hsz : ((w1.alloc (.cells #[.int .u8 0, .int .i64 L, .int .i64 d] 32)).drewN q2).heap.size = G + 1 := by rw [← hG]; simp [World.drewN]
  rw [hsz] at al3
  clear hsz
  generalize ((w1.alloc (.cells #[.int .u8 0, .int .i64 L, .int .i64 d] 32)).drewN q2).alloc (.cells #[.int .u8 v, .int .i64 0, .int .i64 0] 32) = w3 at *
  clear ar2 ar1 ar0 at1 hbt hft c5t hb01 hb1 hb0 h0 hbest
  have hf3 := h.keeps hb3
  have hc3 : Chg w w3 (FF A gm Ap g) := Chg.of_below hb3
  have hFF : Hid (∀ k, w.heap.size ≤ k → ¬ FF A gm Ap g k) := fun k hk hF => by have := (h.foot_lo hF).2; omega
  obtain ⟨c0, c1, c2, c3, c4, c5, c6, c7⟩ := ff_c hf3
  rw [HT.out] at c5
  obtain ⟨t0, t1, t2, -, -, -⟩ := tkT_cells at3
  obtain ⟨l0, l1, l2, -, -, -⟩ := tkT_cells al3
  by_cases hL0 : L = 0
  · have hRR : Hid (R = (⟨v, 0, 0⟩, passF e 1 st)) := by show _ = _; rw [HNX.out, if_pos hL0, hlit.out]
    have hp := pass_any 1 hf3 hltH.out
    have hLz : (L : Int) = 0 := by omega
    obtain ⟨-, -, r3, -⟩ := pass_ok (e := e) (n := 1) h.ok hltH.out
    have hat3 := Lib.hid r3
    clear r3 hG
    go_wp2_with fail
    refine hp.mono ?_
    rintro r w4 ⟨rfl, ⟨nm4, Dm4, hf4⟩, hc4⟩
    have ar4 := hc4.ar ar3 (hFF.out _ (Nat.le_refl _))
    have al4 := hc4.ar al3 (hFF.out _ (by omega))
    have hf4' : FndC w4 b0 g e (passF e 1 st) (passF e 1 st).at_ A n c gm nm4 Dm4 Ap np cp := by rw [hat3.out]; exact hf4
    have hcc := hc3.trans hc4 fun k hk => .inl hk
    obtain ⟨l0, l1, l2, -, -, -⟩ := tkT_cells al4
    obtain ⟨j0, j1, j2, z0, z1, z2⟩ := tkT_cells ar4
    go_wp2_with fail
    refine bodyPost_ret (v := .agg #[.int .u8 v, .int .i64 0, .int .i64 0]) (by simp [results, Try.results20, go_sem, j0, j1, j2]) rfl ?_
    rw [hRR.out]
    exact next_fin h hf4' hcc ar4
  · have hend : Hid (∀ q, Calls Try.prog 24 #[.pointer (some ⟨g, 0, none⟩)] (w3.drewN q) fun r w' => r = .returned (.int .i64 st.D.length) ∧ ∃ m, w' = (w3.drewN q).drewN m) := fun q => end_any (hf3.drewN q)
    obtain ⟨DL, hDL⟩ : ∃ DL, st.D.length = DL := ⟨_, rfl⟩
    rw [hDL] at hend hLb hbig
    obtain ⟨lz, hlz⟩ : ∃ lz, e.lazy = lz := ⟨_, rfl⟩
    obtain ⟨nc, hnc⟩ : ∃ nc, e.nice = nc := ⟨_, rfl⟩
    rw [hlz] at c2
    rw [hnc] at c1
    have hL0I : ((L : Int) == 0) = false := by simpa using hL0
    have hLD : Hid (st.at_ + L ≤ st.D.length) := by show _ ≤ _; rw [hDL]; exact hLb.2.2
    obtain ⟨-, -, r3, -⟩ := pass_ok (e := e) (n := L) h.ok hLD.out
    have hat3 := Lib.hid r3
    have HDL := Lib.hid hDL
    have hNX2 : Hid (R = if lz = true ∧ L < nc ∧ T + 1 < DL then
        (if L < (bestOf e (enterF e st T) (T + 1)).1 then (litAt st, moved (enterF e st T)) else (⟨0, L, d⟩, passF e (L - 1) (moved (enterF e st T))))
        else (⟨0, L, d⟩, passF e L st)) := by
      show _ = _
      rw [HNX.out, if_neg hL0, hlz, hnc, hDL, HT.out]
    have hc4' : ∀ q, Chg w3 (w3.drewN q) (FF A gm Ap g) := fun q => (Chg.refl w3 _).drewN q
    have hDI : (DL : Int) ≤ 100000000000 := by omega
    clear r3 hG hDL hL0 hlz hnc hbig HNX
    cases lz with
    | false =>
      have hRR : Hid (R = (⟨0, L, d⟩, passF e L st)) := by show _ = _; rw [hNX2.out, if_neg (fun h => by simp at h)]
      clear hNX2
      go_wp2_with fail
      go_quiet ((go_at_call 24; exact Calls.quiet_of (hend.out _)))
      go_wp2_with fail
      refine (pass_any L (hf3.drewN _) hLD.out).mono ?_
      rintro r w4 ⟨rfl, ⟨nm4, Dm4, hf4⟩, hc4⟩
      have hc4' := hc3.trans ((hc4' nq).trans hc4 fun k hk => .inl hk) fun k hk => .inl hk
      have ar4 := hc4.ar (ar3.drewN nq) (hFF.out _ (Nat.le_refl _))
      have at4 := hc4.ar (at3.drewN nq) (hFF.out _ (by omega))
      have hf4' : FndC w4 b0 g e (passF e L st) (passF e L st).at_ A n c gm nm4 Dm4 Ap np cp := by rw [hat3.out]; exact hf4
      obtain ⟨t0, t1, t2, -, -, -⟩ := tkT_cells at4
      obtain ⟨j0, j1, j2, z0, z1, z2⟩ := tkT_cells ar4
      go_wp2_with fail
      refine bodyPost_ret (v := .agg #[.int .u8 0, .int .i64 L, .int .i64 d]) (by simp [results, Try.results20, go_sem, j0, j1, j2]) rfl ?_
      rw [hRR.out]
      exact next_fin h hf4' hc4' ar4
    | true =>
      by_cases hnice : L < nc
      · have hniI : (L : Int) < (nc : Int) := by omega
        by_cases hroom : T + 1 < DL
        · have hroI : (T : Int) + 1 < (DL : Int) := by omega
          have hNX3 : Hid (R = if L < (bestOf e (enterF e st T) (T + 1)).1 then (litAt st, moved (enterF e st T)) else (⟨0, L, d⟩, passF e (L - 1) (moved (enterF e st T)))) := by show _ = _; rw [hNX2.out, if_pos ⟨rfl, hnice, hroom⟩]
          have hen : Hid (∀ q, Calls Try.prog 25 #[.pointer (some ⟨g, 0, none⟩), .int .i64 T] (w3.drewN q) (EnterPost (w3.drewN q) b0 g e (enterF e st T) (T + 1) A n c gm Ap np cp)) := fun q => by
            have := enter_any st.at_ (hf3.drewN q) h.ok.lo hltH.out
            rwa [HT.out] at this
          have hD5 := enter_D e st T
          have hat5 : Hid ((enterF e st T).at_ = T) := by show _ = _; rw [hD5.2.1, HT.out]
          have hbase5 : (enterF e st T).base ≤ T + 1 := by rw [hD5.2.2]; have := h.ok.lo; have := HT.out; omega
          have hDD : Hid ((moved (enterF e st T)).D.length = DL) := by show _ = _; rw [← HDL.out]; exact congrArg List.length hD5.1
          have hgood := best_good (e := e) (st := enterF e st T) (p := T + 1) (by
            have := h.ok.enter (e := e) (p := st.at_) hltH.out
            rwa [HT.out] at this)
          obtain ⟨⟨U, ud⟩, hU⟩ : ∃ U, bestOf e (enterF e st T) (T + 1) = U := ⟨_, rfl⟩
          rw [hU] at hNX3 hgood
          have hUb : U ≤ 258 ∧ ud ≤ 32768 := by
            rcases hgood with ⟨h1, h2⟩ | ⟨-, h1, h2, -, h3, -⟩
            · dsimp only at h1 h2; omega
            · dsimp only at h1 h2 h3; omega
          have HU := Lib.hid hU
          have hT1 : ((T + 1 : Nat) : Int) = (T : Int) + 1 := by omega
          have HT1 := Lib.hid hT1
          clear hNX2 hD5 hgood hU hT1
          go_wp2_with fail
          go_quiet ((go_at_call 24; exact Calls.quiet_of (hend.out _)))
          go_wp2_with fail
          refine (hen.out _).mono ?_
          rintro r w5 ⟨rfl, ⟨nm5, Dm5, hf5⟩, hc5⟩
          have hc35 := hc3.trans ((hc4' nq).trans hc5 fun k hk => .inl hk) fun k hk => .inl hk
          have ar5 := hc5.ar (ar3.drewN nq) (hFF.out _ (Nat.le_refl _))
          have at5 := hc5.ar (at3.drewN nq) (hFF.out _ (by omega))
          have al5 := hc5.ar (al3.drewN nq) (hFF.out _ (by omega))
          obtain ⟨-, -, -, -, -, c55, -, -⟩ := ff_c hf5
          rw [hat5.out] at c55
          have hbest5 := best_any (T + 1) hf5 hbase5
          rw [HU.out, HT1.out] at hbest5
          clear hf3 hc3 ar3 at3 al3 hb3 c0 c1 c2 c3 c4 c5 c6 c7 t0 t1 t2 l0 l1 l2 hc4' hc5
          go_wp2_with fail
          refine hbest5.mono ?_
          rintro r w6 ⟨rfl, hb6⟩
          dsimp only
          have hs6 := hb6.size
          have hba := hb6.alloc hb6.size (.cells #[.int .u8 0, .int .i64 U, .int .i64 ud] 32)
          have hf7 := hf5.keeps hba
          have hc7 : Chg w (w6.alloc (.cells #[.int .u8 0, .int .i64 U, .int .i64 ud] 32)) (FF A gm Ap g) := hc35.trans (Chg.of_below hba) fun k hk => .inl hk
          have ar7 := ar5.keeps hba
          have at7 := at5.keeps hba
          have al7 := al5.keeps hba
          have au7 := new_tkT w6 0 U ud
          have hG6 : G + 1 < w6.heap.size := by have := al5.lt; omega
          have hszz : (w6.alloc (.cells #[.int .u8 0, .int .i64 U, .int .i64 ud] 32)).heap.size = w6.heap.size + 1 := by simp
          go_upto_region 9 with fail
          generalize hG7 : w6.heap.size = G7 at *
          generalize w6.alloc (.cells #[.int .u8 0, .int .i64 U, .int .i64 ud] 32) = w7 at *
          clear hba ar5 at5 al5 hf5 hb6 c55 hc35 hbest5
          obtain ⟨-, -, -, -, -, c5, -, -⟩ := ff_c hf7
          rw [hat5.out] at c5
          have z5 := hf7.cell.frozen' (i := 5) (by omega)
          obtain ⟨t0, t1, t2, -, -, -⟩ := tkT_cells at7
          obtain ⟨l0, l1, l2, -, -, -⟩ := tkT_cells al7
          obtain ⟨u0, u1, u2, -, -, -⟩ := tkT_cells au7
          obtain ⟨j0, j1, j2, z0, z1, z2⟩ := tkT_cells ar7
          have hf7' : FndC w7 b0 g e (enterF e st T) ((enterF e st T).at_ + 1) A n c gm nm5 Dm5 Ap np cp := by rw [hat5.out]; exact hf7
          obtain ⟨hf8, hc8⟩ := hf7'.moved (T := (T : Int) + 1) (by rw [hat5.out])
          have hc78 := hc7.trans hc8 fun k hk => .inl hk
          have hgw : g ≠ w.heap.size := by omega
          have hgw2 : w.heap.size ≠ g := by omega
          have ar8 : Ar _ w.heap.size 3 _ := ar7.far (p := ⟨g, 5, none⟩) hgw2 (.int .i64 ((T : Int) + 1))
          have at8 : Ar _ G 3 _ := at7.far (p := ⟨g, 5, none⟩) (by simp; omega) (.int .i64 ((T : Int) + 1))
          have al8 : Ar _ (G + 1) 3 _ := al7.far (p := ⟨g, 5, none⟩) (by simp; omega) (.int .i64 ((T : Int) + 1))
          have hm : (moved (enterF e st T)).at_ = T + 1 := by show (enterF e st T).at_ + 1 = _; rw [hat5.out]
          rw [hat5.out, ← hm] at hf8
          have HM := Lib.hid hm
          clear hm
          have hgG1 : g ≠ G + 1 ∧ g ≠ G := by omega
          by_cases hUL : L < U
          · have hULI : (L : Int) < (U : Int) := by omega
            have hRR : Hid (R = (⟨v, 0, 0⟩, moved (enterF e st T))) := by show _ = _; rw [hNX3.out, if_pos hUL, hlit.out]
            obtain ⟨t0, t1, t2, -, -, -⟩ := tkT_cells at8
            obtain ⟨l0, l1, l2, -, -, -⟩ := tkT_cells al8
            obtain ⟨j0, j1, j2, z0, z1, z2⟩ := tkT_cells ar8
            go_wp2_with fail
            refine bodyPost_ret (v := .agg #[.int .u8 v, .int .i64 0, .int .i64 0]) (by simp [results, Try.results20, go_sem, j0, j1, j2]) rfl ?_
            rw [hRR.out]
            exact next_fin h hf8 hc78 ar8
          · have hULI : ¬ (L : Int) < (U : Int) := by omega
            have hRR : Hid (R = (⟨0, L, d⟩, passF e (L - 1) (moved (enterF e st T)))) := by show _ = _; rw [hNX3.out, if_neg hUL]
            obtain ⟨L1, hL1⟩ : ∃ L1, L - 1 = L1 := ⟨_, rfl⟩
            have hL1I : (L : Int) - 1 = (L1 : Int) := by have h5 : L ≠ 0 := by (intro h6; rw [h6] at hL0I; simp at hL0I)
                                                         omega
            rw [hL1] at hRR
            have hroom2 : Hid ((moved (enterF e st T)).at_ + L1 ≤ (moved (enterF e st T)).D.length) := by show _ ≤ _; rw [HM.out, hDD.out]; have := HT.out; omega
            obtain ⟨-, -, r3, -⟩ := pass_ok (e := e) (n := L1) hf8.ok hroom2.out
            have hat9 := Lib.hid r3
            have hpass := pass_any L1 hf8 hroom2.out
            obtain ⟨t0, t1, t2, -, -, -⟩ := tkT_cells at8
            clear r3 hL1
            go_wp2_with fail
            refine hpass.mono ?_
            rintro r w9 ⟨rfl, ⟨nm9, Dm9, hf9⟩, hc9⟩
            have hc79 := hc78.trans hc9 fun k hk => .inl hk
            have ar9 := hc9.ar ar8 (hFF.out _ (Nat.le_refl _))
            have at9 := hc9.ar at8 (hFF.out _ (by omega))
            have hf9' : FndC w9 b0 g e (passF e L1 (moved (enterF e st T))) (passF e L1 (moved (enterF e st T))).at_ A n c gm nm9 Dm9 Ap np cp := by rw [hat9.out]; exact hf9
            obtain ⟨t0, t1, t2, -, -, -⟩ := tkT_cells at9
            obtain ⟨j0, j1, j2, z0, z1, z2⟩ := tkT_cells ar9
            go_wp2_with fail
            refine bodyPost_ret (v := .agg #[.int .u8 0, .int .i64 L, .int .i64 d]) (by simp [results, Try.results20, go_sem, j0, j1, j2]) rfl ?_
            rw [hRR.out]
            exact next_fin h hf9' hc79 ar9
        · have hroI : ¬ (T : Int) + 1 < (DL : Int) := by omega
          have hRR : Hid (R = (⟨0, L, d⟩, passF e L st)) := by show _ = _; rw [hNX2.out, if_neg (fun h => hroom h.2.2)]
          clear hNX2
          go_wp2_with fail
          go_quiet ((go_at_call 24; exact Calls.quiet_of (hend.out _)))
          go_wp2_with fail
          refine (pass_any L (hf3.drewN _) hLD.out).mono ?_
          rintro r w4 ⟨rfl, ⟨nm4, Dm4, hf4⟩, hc4⟩
          have hc4' := hc3.trans ((hc4' nq).trans hc4 fun k hk => .inl hk) fun k hk => .inl hk
          have ar4 := hc4.ar (ar3.drewN nq) (hFF.out _ (Nat.le_refl _))
          have at4 := hc4.ar (at3.drewN nq) (hFF.out _ (by omega))
          have hf4' : FndC w4 b0 g e (passF e L st) (passF e L st).at_ A n c gm nm4 Dm4 Ap np cp := by rw [hat3.out]; exact hf4
          obtain ⟨t0, t1, t2, -, -, -⟩ := tkT_cells at4
          obtain ⟨j0, j1, j2, z0, z1, z2⟩ := tkT_cells ar4
          go_wp2_with fail
          refine bodyPost_ret (v := .agg #[.int .u8 0, .int .i64 L, .int .i64 d]) (by simp [results, Try.results20, go_sem, j0, j1, j2]) rfl ?_
          rw [hRR.out]
          exact next_fin h hf4' hc4' ar4
      · have hniI : ¬ (L : Int) < (nc : Int) := by omega
        have hRR : Hid (R = (⟨0, L, d⟩, passF e L st)) := by show _ = _; rw [hNX2.out, if_neg (fun h => hnice h.2.1)]
        clear hNX2
        go_wp2_with fail
        go_quiet ((go_at_call 24; exact Calls.quiet_of (hend.out _)))
        go_wp2_with fail
        refine (pass_any L (hf3.drewN _) hLD.out).mono ?_
        rintro r w4 ⟨rfl, ⟨nm4, Dm4, hf4⟩, hc4⟩
        have hc4' := hc3.trans ((hc4' nq).trans hc4 fun k hk => .inl hk) fun k hk => .inl hk
        have ar4 := hc4.ar (ar3.drewN nq) (hFF.out _ (Nat.le_refl _))
        have at4 := hc4.ar (at3.drewN nq) (hFF.out _ (by omega))
        have hf4' : FndC w4 b0 g e (passF e L st) (passF e L st).at_ A n c gm nm4 Dm4 Ap np cp := by rw [hat3.out]; exact hf4
        obtain ⟨t0, t1, t2, -, -, -⟩ := tkT_cells at4
        obtain ⟨j0, j1, j2, z0, z1, z2⟩ := tkT_cells ar4
        go_wp2_with fail
        refine bodyPost_ret (v := .agg #[.int .u8 0, .int .i64 L, .int .i64 d]) (by simp [results, Try.results20, go_sem, j0, j1, j2]) rfl ?_
        rw [hRR.out]
        exact next_fin h hf4' hc4' ar4
end
end Go.Proofs.Ytlnmicocmbdbdaa
