/-
  Several texts in one (written by pack2.py): FndB, FndC, FndD, FndE.
-/
import Derived.Test.YtlgkiookobedcaaFnd
import Derived.Handy
import Derived.LoopTactic
namespace Go.Proofs.Ytlgkiookobedcaa
open Go.RowKit Go.Maps
set_option linter.unusedVariables false
theorem law32 : Keyed Try.prog 47 := int_keyed Try.underlying47
theorem zeroInt (w : World) : (zeroValue 3).run Try.prog w = .ok (.int .i64 0) w := by kernel_rfl
theorem key32 {x : Int} (h : 0 ≤ x ∧ x < 4294967296) : keyOf Try.prog 47 (.int .u32 x) = some (.int .u32 x) := keyOf_int_mk Try.underlying47 (by simp [Lit.wf, IntKind.min, IntKind.max, IntKind.signed, IntKind.bits]; omega)
theorem quiet_at {P : Program} {f : FuncId} {args : Array Value} {w : World} {q n : Nat} {v : Value} (h : Calls P f args (w.drewN (q + n)) fun e w' => e = .returned v ∧ ∃ m, w' = (w.drewN (q + n)).drewN m) :
    Calls P f args (w.drewN (q + n)) fun e w'' => e = .returned v ∧ ∃ m, w'' = w.drewN (q + m) :=
  h.mono fun _ _ ⟨he, m, hm⟩ => ⟨he, n + m, by rw [hm, World.drewN_drewN, Nat.add_assoc]⟩
set_option maxRecDepth 100000 in
theorem FndC.look {w : World} {b0 g b n c gm nm np cp : Nat} {e : Eff} {st : FSt} {A Ap : Option Addr} {Dm : DataW Unit} (h : FndC w b0 g e st b A n c gm nm Dm Ap np cp) {H : Int} (hH : 0 ≤ H ∧ H < 4294967296) (m : Nat) :
    (Instr.lookup 75 (.map (some gm)) (.int .u32 H) true).run Try.prog (w.drewN m) = .ok (.tuple #[.int .i64 ((st.head H).getD 0), .bool ((st.head H).isSome)]) (w.drewN m) := by
  have hm := (h.drewN m).map
  obtain ⟨v, ps, h1, h2⟩ := hm.look_ok law32 (t := 75) Try.underlying75 (zeroInt _) (plainElem_int (a := 0) Try.underlying3 (by decide)) (key32 hH)
  rw [(h.rep.2 H).2] at h2
  obtain ⟨c, rfl, hc, _⟩ := plainElem_int_inv Try.underlying3 h2
  have : (st.head H).getD 0 = c := by
    have h3 := congrArg Prod.fst hc
    injection h3 with h3
    injection h3 with h3 h4
  rw [h1, this, (h.rep.2 H).1]
def BestPost (w : World) (t : Nat × Nat) (r : Ending) (w' : World) : Prop := r = .returned (.agg #[.int .u8 0, .int .i64 t.1, .int .i64 t.2]) ∧ Below w.heap.size w w'
def tk (t : Nat × Nat) : Nat → Value
  | 0 => .int .u8 0
  | 1 => .int .i64 t.1
  | _ => .int .i64 t.2
theorem tk_set {w : World} {g : Nat} {t : Nat × Nat} (h : Ar w g 3 (tk t)) (a b : Nat) : Ar ((w.setCell ⟨g, 1, none⟩ (.int .i64 a)).setCell ⟨g, 2, none⟩ (.int .i64 b)) g 3 (tk (a, b)) :=
  ((h.set_ (i := 1) (by omega) _).set_ (i := 2) (by omega) _).congr fun i hi => by
    obtain rfl | rfl | rfl : i = 0 ∨ i = 1 ∨ i = 2 := by omega
    all_goals rfl
theorem new_tk (w : World) : Ar (w.alloc (.cells #[.int .u8 0, .int .i64 0, .int .i64 0] 68)) w.heap.size 3 (tk (0, 0)) :=
  Ar.new w #[.int .u8 0, .int .i64 0, .int .i64 0] 68 (show (#[.int .u8 0, .int .i64 0, .int .i64 0] : Array Value).size = 3 from rfl) fun i hi => by
    obtain rfl | rfl | rfl : i = 0 ∨ i = 1 ∨ i = 2 := by omega
    all_goals rfl
theorem tk_cells {w : World} {g : Nat} {t : Nat × Nat} (h : Ar w g 3 (tk t)) : w.cell? ⟨g, 0, none⟩ = some (.int .u8 0) ∧ w.cell? ⟨g, 1, none⟩ = some (.int .i64 t.1) ∧ w.cell? ⟨g, 2, none⟩ = some (.int .i64 t.2) ∧
    w.frozen? ⟨g, 0, none⟩ = false ∧ w.frozen? ⟨g, 1, none⟩ = false ∧ w.frozen? ⟨g, 2, none⟩ = false :=
  ⟨h.cell (i := 0) (by omega), h.cell (i := 1) (by omega), h.cell (i := 2) (by omega), h.frozen' (i := 0) (by omega), h.frozen' (i := 1) (by omega), h.frozen' (i := 2) (by omega)⟩
def BestRel (w : World) (st : FSt) (e : Eff) (p gr gt : Nat) (R : Nat × Nat) (k m _n : Value) (wr : World) : Prop :=
  ∃ (tr : Nat) (K : Int) (t : Nat × Nat), m = .int .i64 tr ∧ tr ≤ 256 ∧ k = .int .i64 K ∧ -1 ≤ K ∧ K < (p : Int) ∧ Hid (bestF st.D st.P st.base p e.nice tr K t = R) ∧ t.1 ≤ 258 ∧ t.2 ≤ p ∧ Ar wr gt 3 (tk t) ∧ Ar wr gr 3 (tk (0, 0)) ∧ Below w.heap.size w wr
section
variable {w w' : World} {b0 g n c gm nm np cp : Nat} {e : Eff} {st : FSt} {A Ap : Option Addr} {Dm : DataW Unit}
set_option maxRecDepth 100000 in
set_option maxHeartbeats 4000000 in
theorem best_any (p : Nat) (h : FndC w b0 g e st p A n c gm nm Dm Ap np cp) (hp : st.base ≤ p) :
    Calls Try.prog 53 #[.pointer (some ⟨g, 0, none⟩), .int .i64 p] w (BestPost w (bestOf e st p)) := by
  obtain ⟨c0, c1, -, c3, c4, -, c6, c7⟩ := ff_c h
  have hb := h.big
  have hbl := h.ok.bl
  have heb := h.eb
  have hend := fun W (hf : FndC W b0 g e st p A n c gm nm Dm Ap np cp) => end_any hf
  obtain ⟨L, hL⟩ : ∃ L, st.D.length = L := ⟨_, rfl⟩
  obtain ⟨ch, hch⟩ : ∃ ch, e.chain = ch := ⟨_, rfl⟩
  rw [hch] at c0 heb
  rw [hL] at hb hbl
  have hI : (p : Int) ≤ L ∧ (L : Int) ≤ 100000000000 ∧ (0 : Int) ≤ p ∧ (0 : Int) ≤ ch ∧ (ch : Int) ≤ 256 := by omega
  have HL := Lib.hid hL
  have HCH := Lib.hid hch
  have hgs := h.cell.lt
  have hb2 := ((Below.refl _ w).alloc (Nat.le_refl _) (.cells #[.int .u8 0, .int .i64 0, .int .i64 0] 68)).alloc (by simp) (.cells #[.int .u8 0, .int .i64 0, .int .i64 0] 68)
  have ha0 : Ar ((w.alloc (.cells #[.int .u8 0, .int .i64 0, .int .i64 0] 68)).alloc (.cells #[.int .u8 0, .int .i64 0, .int .i64 0] 68)) w.heap.size 3 (tk (0, 0)) := (new_tk w).alloc _
  have ha1 : Ar ((w.alloc (.cells #[.int .u8 0, .int .i64 0, .int .i64 0] 68)).alloc (.cells #[.int .u8 0, .int .i64 0, .int .i64 0] 68)) (w.heap.size + 1) 3 (tk (0, 0)) := by
    have := new_tk (w.alloc (.cells #[.int .u8 0, .int .i64 0, .int .i64 0] 68))
    rwa [show (w.alloc (.cells #[.int .u8 0, .int .i64 0, .int .i64 0] 68)).heap.size = w.heap.size + 1 by simp] at this
  by_cases hc0 : ch = 0
  · have hB : Hid (bestOf e st p = (0, 0)) := bestOf_zero (.inl (by rw [hch]; exact hc0))
    subst hc0
    clear hL hch
    go_enter Try.func53, Try.ntmps53
    go_wp2_with fail
    go_returns
    unfold BestPost
    rw [hB.out]
    exact ⟨rfl, ((Below.refl _ w).alloc (Nat.le_refl _) _).alloc (by simp) _⟩
  · have hc0I : ((ch : Int) == 0) = false := by simpa using hc0
    have h1 := h.keeps hb2
    by_cases hsh : L < p + 3
    · have hB : Hid (bestOf e st p = (0, 0)) := bestOf_zero (.inr (by rw [hL]; exact hsh))
      have hshI : (L : Int) < (p : Int) + 3 := by omega
      rw [hL] at hend
      clear hL hch hc0
      go_enter Try.func53, Try.ntmps53
      go_wp2_with fail
      refine (hend _ h1).mono ?_
      rintro r w1 ⟨rfl, q1, rfl⟩
      go_wp2_with fail
      go_returns
      unfold BestPost
      rw [hB.out]
      exact ⟨rfl, (((below_drewN hb2 q1).setCell (p := ⟨w.heap.size, 0, none⟩) (Nat.le_refl _) _).setCell (p := ⟨w.heap.size, 1, none⟩) (Nat.le_refl _) _).setCell (p := ⟨w.heap.size, 2, none⟩) (Nat.le_refl _) _⟩
    · have hshI : ¬ (L : Int) < (p : Int) + 3 := by omega
      obtain ⟨H, hH⟩ : ∃ H, hashAt st.D p = H := ⟨_, rfl⟩
      have hHb : 0 ≤ H ∧ H < 4294967296 := by rw [← hH]; have := hs3_bd (ix st.D p) (ix st.D (p + 1)) (ix st.D (p + 2)); unfold hashAt; omega
      have hlk := h1.look hHb
      have hhash : ∀ m W, FndC W b0 g e st p A n c gm nm Dm Ap np cp → Calls Try.prog 70 #[.pointer (some ⟨g, 0, none⟩), .int .i64 p] (W.drewN m) fun r w' => r = .returned (.int .u32 H) ∧ ∃ q, w' = (W.drewN m).drewN q := fun m W hf => by
        have := hash_any (hf.drewN m) p hp (by rw [hL]; omega)
        rwa [hH] at this
      have hs : Hid (∀ k, st.head H = some k → bestOf e st p = bestF st.D st.P st.base p e.nice ch k (0, 0) ∧ 0 ≤ k ∧ k < (p : Int)) := fun k hk => by
        have h5 := h.ok.hd H k hk
        have h6 := bestOf_some (e := e) (st := st) (p := p) (k := k) (by rw [hch]; exact hc0) (by rw [hL]; omega) (by rw [hH]; exact hk)
        rw [hch] at h6
        exact ⟨h6, h5⟩
      have hnn : Hid (st.head H = none → bestOf e st p = (0, 0)) := fun hk => bestOf_none (by rw [hH]; exact hk)
      rw [hL] at hend
      have HH := Lib.hid hhash
      have HHK := Lib.hid hH
      clear hL hch hc0 hH hhash
      obtain ⟨hd, hhd⟩ : ∃ hd, st.head H = hd := ⟨_, rfl⟩
      rw [hhd] at hlk
      have HD := Lib.hid hhd
      clear hhd
      cases hd with
      | none =>
        have hB : Hid (bestOf e st p = (0, 0)) := hnn.out HD.out
        simp only [Option.getD_none, Option.isSome_none] at hlk
        go_enter Try.func53, Try.ntmps53
        go_wp2_with fail
        refine (hend _ h1).mono ?_
        rintro r w1 ⟨rfl, q1, rfl⟩
        go_wp2_with fail
        go_quiet ((go_at_call 70; exact quiet_at (HH.out _ _ h1)))
        go_wp2_with fail
        go_loopw [6, 8, 9] (fun k _ _ wr => k = .int .i64 0 ∧ Ar wr (w.heap.size + 1) 3 (tk (0, 0)) ∧ Ar wr w.heap.size 3 (tk (0, 0)) ∧ Below w.heap.size w wr) (fun _ _ _ _ => 0)
        case atStart => exact ⟨rfl, ha1.drewN _, ha0.drewN _, below_drewN hb2 _⟩
        case round =>
          obtain ⟨rfl, h1, h0, hbr⟩ := hrel
          obtain ⟨k0, k1, k2, -, -, -⟩ := tk_cells h1
          obtain ⟨j0, j1, j2, z0, z1, z2⟩ := tk_cells h0
          have hlt := h1.lt
          go_wp2_with fail
          refine bodyPost_ret (v := .agg #[.int .u8 0, .int .i64 0, .int .i64 0]) (by simp [results, Try.results53, go_sem, j0, j1, j2]) rfl ?_
          unfold BestPost
          rw [hB.out]
          exact ⟨rfl, ((hbr.setCell (p := ⟨w.heap.size, 0, none⟩) (Nat.le_refl _) _).setCell (p := ⟨w.heap.size, 1, none⟩) (Nat.le_refl _) _).setCell (p := ⟨w.heap.size, 2, none⟩) (Nat.le_refl _) _⟩
      | some k =>
        obtain ⟨hB, hk0, hkp⟩ := hs.out k HD.out
        simp only [Option.getD_some, Option.isSome_some] at hlk
        obtain ⟨R, hR⟩ : ∃ R, bestOf e st p = R := ⟨_, rfl⟩
        rw [hR] at hB ⊢
        have HB : Hid (bestF st.D st.P st.base p e.nice ch k (0, 0) = R) := hB.symm
        have hP : Hid (∀ q, -1 ≤ ix st.P q ∧ ix st.P q ≤ q) := h.ok.prev
        obtain ⟨B, hBs⟩ : ∃ B, st.base = B := ⟨_, rfl⟩
        obtain ⟨N0, hN0⟩ : ∃ N0, e.nice = N0 := ⟨_, rfl⟩
        have hBI : (0 : Int) ≤ B ∧ (B : Int) ≤ (p : Int) := by omega
        have HBS := Lib.hid hBs
        have HN0 := Lib.hid hN0
        have hn := h.n_eq
        rw [HL.out] at hn
        have Hn := Lib.hid hn
        have hgds : Hid (∀ gd, Ap = some ⟨gd, 0, none⟩ → gd < w.heap.size) := fun gd e => (h.ownp.2.lt (g := gd) (by rw [e]; rfl)).2
        clear hB hR hs hnn hBs hN0 hn
        go_enter Try.func53, Try.ntmps53
        go_wp2_with fail
        refine (hend _ h1).mono ?_
        rintro r w1 ⟨rfl, q1, rfl⟩
        go_wp2_with fail
        go_quiet ((go_at_call 70; exact quiet_at (HH.out _ _ h1)))
        go_wp2_with fail
        clear hlk
        go_loopw [6, 8, 9] (BestRel w st e p w.heap.size (w.heap.size + 1) R) (fun _ m _ _ => (intOf m).toNat)
        case atStart => exact ⟨ch, k, (0, 0), rfl, by omega, rfl, by omega, hkp, HB, by simp, by simp, ha1.drewN _, ha0.drewN _, below_drewN hb2 _⟩
        case round =>
          obtain ⟨tr, K, t, rfl, htr, rfl, hK1, hKp, hF, ht1, ht2, ar1, ar0, hbr⟩ := hrel
          obtain ⟨T, Dd⟩ := t
          dsimp only at ht1 ht2
          obtain ⟨k0, k1, k2, y0, y1, y2⟩ := tk_cells ar1
          obtain ⟨j0, j1, j2, z0, z1, z2⟩ := tk_cells ar0
          have hlt := ar1.lt
          have hf := h.keeps hbr
          have hg1 : g ≠ w.heap.size + 1 := by omega
          have hg2 : w.heap.size + 1 ≠ g := by omega
          obtain ⟨c0, c1, -, c3, c4, -, c6, c7⟩ := ff_c hf
          rw [HBS.out] at c4
          rw [HN0.out] at c1
          have hTI : (0 : Int) ≤ T ∧ (T : Int) ≤ 258 ∧ (0 : Int) ≤ Dd := by omega
          dsimp only at k1 k2
          by_cases htr0 : tr = 0
          · have hR : Hid (R = (T, Dd)) := by show _ = _; rw [← hF.out, htr0]; rfl
            have htrI : ((tr : Int)) = 0 := by omega
            subst htr0
            clear hF
            go_wp2_with fail
            refine bodyPost_ret (v := .agg #[.int .u8 0, .int .i64 T, .int .i64 Dd]) (by simp [results, Try.results53, go_sem, j0, j1, j2]) rfl ?_
            unfold BestPost
            rw [hR.out]
            exact ⟨rfl, ((hbr.setCell (p := ⟨w.heap.size, 0, none⟩) (Nat.le_refl _) _).setCell (p := ⟨w.heap.size, 1, none⟩) (Nat.le_refl _) _).setCell (p := ⟨w.heap.size, 2, none⟩) (Nat.le_refl _) _⟩
          · obtain ⟨m, rfl⟩ : ∃ m, tr = m + 1 := ⟨tr - 1, by omega⟩
            have hm : ((m + 1 : Nat) : Int) = (m : Int) + 1 := by omega
            have hmI : (0 : Int) ≤ m ∧ (m : Int) ≤ 255 ∧ (0 : Int) < (m : Int) + 1 := by omega
            have hunf : bestF st.D st.P st.base p e.nice (m + 1) K (T, Dd) = if (B : Int) ≤ K ∧ (p : Int) - 32768 ≤ K then
                (if 3 ≤ sameN st.D K.toNat p ∧ T < sameN st.D K.toNat p then
                  (if N0 ≤ sameN st.D K.toNat p then (sameN st.D K.toNat p, p - K.toNat) else bestF st.D st.P st.base p e.nice m (ix st.P K.toNat) (sameN st.D K.toNat p, p - K.toNat))
                else bestF st.D st.P st.base p e.nice m (ix st.P K.toNat) (T, Dd)) else (T, Dd) := by rw [← HBS.out, ← HN0.out]; rfl
            have hF2 := hF.out
            rw [hunf] at hF2
            clear hunf hF
            rw [hm]
            by_cases hc1 : (B : Int) ≤ K
            · by_cases hc2 : (p : Int) - 32768 ≤ K
              · rw [if_pos ⟨hc1, hc2⟩] at hF2
                obtain ⟨K', rfl⟩ := Int.eq_ofNat_of_zero_le (show 0 ≤ K by omega)
                rw [Int.toNat_natCast] at hF2
                have hsame := sameN_any hf K' p (by rw [HBS.out]; omega) (by omega) (by rw [HL.out]; omega)
                have hNb := (sameN_bd st.D K' p).1
                obtain ⟨N, hN⟩ : ∃ N, sameN st.D K' p = N := ⟨_, rfl⟩
                rw [hN] at hsame hNb hF2
                obtain ⟨i, hi⟩ : ∃ i, K' = B + i := ⟨K' - B, by omega⟩
                have hin : i < n := by have := Hn.out; have := HBS.out; omega
                have hwI : IntKind.i64.wrap ((K' : Int) - (B : Int)) = (i : Int) := by rw [IntWalk.i64_in _ (by omega)]; omega
                have hKB : (K' : Int) - (B : Int) = (i : Int) := by omega
                have hinI : (0 : Int) ≤ i ∧ (i : Int) < (n : Int) := by omega
                obtain ⟨V, hV⟩ : ∃ V, ix st.P K' = V := ⟨_, rfl⟩
                have hVb := hP.out K'
                rw [hV] at hF2 hVb
                have hVb2 : -1 ≤ V ∧ V < (p : Int) := by omega
                have hcell : ∀ W, Below w.heap.size w W → ∃ gd, Ap = some ⟨gd, 0, none⟩ ∧ W.cell? ⟨gd, i, none⟩ = some (.int .i64 V) := fun W hW => by
                  have := (h.keeps hW).place hin
                  rwa [HBS.out, ← hi, hV] at this
                have hpk : (p : Int) - (K' : Int) = ((p - K' : Nat) : Int) := by omega
                have HNP := h.np_eq
                have hNI : (0 : Int) ≤ N ∧ (N : Int) ≤ 258 := by omega
                have hnpI : (i : Int) < (np : Int) := by omega
                have hKne : ((K' : Int) == -1) = false := by simp
                have HFF := Lib.hid hF2
                have HPK := Lib.hid hpk
                clear hF2 hi hN hV hVb hin HNP htr0 hpk
                by_cases hN3 : 3 ≤ N
                · by_cases hNT : T < N
                  · have hNI2 : (3 : Int) ≤ N ∧ (T : Int) < N := by omega
                    obtain ⟨d, hd⟩ : ∃ d, p - K' = d := ⟨_, rfl⟩
                    have hF3 := HFF.out
                    rw [if_pos ⟨hN3, hNT⟩, hd] at hF3
                    have hpd : (p : Int) - (K' : Int) = (d : Int) := by have := HPK.out; omega
                    have hdI : d ≤ p := by omega
                    by_cases hnice : N0 ≤ N
                    · have hR : Hid (R = (N, d)) := by show _ = _; rw [← hF3, if_pos hnice]
                      have hniI : (N0 : Int) ≤ (N : Int) := by omega
                      clear hF3 hd HFF hcell
                      go_wp2_with fail
                      refine hsame.mono ?_
                      rintro r w5 ⟨rfl, q5, rfl⟩
                      have hbs := ((below_drewN hbr q5).setCell (p := ⟨w.heap.size + 1, 1, none⟩) (by simp) (.int .i64 N)).setCell (p := ⟨w.heap.size + 1, 2, none⟩) (by simp) (.int .i64 d)
                      go_wp2_with fail
                      refine bodyPost_ret (v := .agg #[.int .u8 0, .int .i64 N, .int .i64 d]) (by simp [results, Try.results53, go_sem, j0, j1, j2]) rfl ?_
                      unfold BestPost
                      rw [hR.out]
                      exact ⟨rfl, ((hbs.setCell (p := ⟨w.heap.size, 0, none⟩) (Nat.le_refl _) _).setCell (p := ⟨w.heap.size, 1, none⟩) (Nat.le_refl _) _).setCell (p := ⟨w.heap.size, 2, none⟩) (Nat.le_refl _) _⟩
                    · have hR : Hid (bestF st.D st.P st.base p e.nice m V (N, d) = R) := by show _ = _; rw [← hF3, if_neg hnice]
                      have hniI : ¬ (N0 : Int) ≤ (N : Int) := by omega
                      clear hF3 hd HFF
                      obtain ⟨gd, rfl, cc⟩ := hcell _ hbr
                      have hgd0 := hgds.out gd rfl
                      have hgdw : gd ≠ w.heap.size + 1 := by omega
                      have hgdw2 : w.heap.size + 1 ≠ gd := fun e => hgdw e.symm
                      clear hcell
                      go_wp2_with fail
                      refine hsame.mono ?_
                      rintro r w5 ⟨rfl, q5, rfl⟩
                      have hbs := ((below_drewN hbr q5).setCell (p := ⟨w.heap.size + 1, 1, none⟩) (by simp) (.int .i64 N)).setCell (p := ⟨w.heap.size + 1, 2, none⟩) (by simp) (.int .i64 d)
                      have as1 := tk_set (ar1.drewN q5) N d
                      have as0 : Ar _ w.heap.size 3 (tk (0, 0)) := ((ar0.drewN q5).far (p := ⟨w.heap.size + 1, 1, none⟩) (by simp) (.int .i64 N)).far (p := ⟨w.heap.size + 1, 2, none⟩) (by simp) (.int .i64 d)
                      go_wp2_with fail
                      go_quiet (fail)
                      go_wp2
                      go_roundw
                      case rel => exact ⟨m, V, (N, d), by go_num, by omega, rfl, hVb2.1, hVb2.2, hR, by omega, hdI, as1.drewN _, as0.drewN _, below_drewN hbs _⟩
                      case measure => simp [intOf]
                  · have hR : Hid (bestF st.D st.P st.base p e.nice m V (T, Dd) = R) := by show _ = _; rw [← HFF.out, if_neg (fun h => hNT h.2)]
                    have hNI2 : (3 : Int) ≤ N ∧ ¬ (T : Int) < N := by omega
                    clear HFF
                    obtain ⟨gd, rfl, cc⟩ := hcell _ hbr
                    clear hcell
                    go_wp2_with fail
                    refine hsame.mono ?_
                    rintro r w5 ⟨rfl, q5, rfl⟩
                    go_wp2_with fail
                    go_quiet (fail)
                    go_wp2
                    go_roundw
                    case rel => exact ⟨m, V, (T, Dd), by go_num, by omega, rfl, hVb2.1, hVb2.2, hR, ht1, ht2, ar1.drewN _, ar0.drewN _, below_drewN hbr _⟩
                    case measure => simp [intOf]
                · have hR : Hid (bestF st.D st.P st.base p e.nice m V (T, Dd) = R) := by show _ = _; rw [← HFF.out, if_neg (fun h => hN3 h.1)]
                  have hNI2 : (N : Int) < 3 := by omega
                  clear HFF
                  obtain ⟨gd, rfl, cc⟩ := hcell _ hbr
                  clear hcell
                  go_wp2_with fail
                  refine hsame.mono ?_
                  rintro r w5 ⟨rfl, q5, rfl⟩
                  go_wp2_with fail
                  go_quiet (fail)
                  go_wp2
                  go_roundw
                  case rel => exact ⟨m, V, (T, Dd), by go_num, by omega, rfl, hVb2.1, hVb2.2, hR, ht1, ht2, ar1.drewN _, ar0.drewN _, below_drewN hbr _⟩
                  case measure => simp [intOf]
              · have hR : Hid (R = (T, Dd)) := by show _ = _; rw [← hF2, if_neg (fun h => hc2 h.2)]
                have hc3 : K < (p : Int) - 32768 := by omega
                clear hF2 hc2
                go_wp2_with fail
                refine bodyPost_ret (v := .agg #[.int .u8 0, .int .i64 T, .int .i64 Dd]) (by simp [results, Try.results53, go_sem, j0, j1, j2]) rfl ?_
                unfold BestPost
                rw [hR.out]
                exact ⟨rfl, ((hbr.setCell (p := ⟨w.heap.size, 0, none⟩) (Nat.le_refl _) _).setCell (p := ⟨w.heap.size, 1, none⟩) (Nat.le_refl _) _).setCell (p := ⟨w.heap.size, 2, none⟩) (Nat.le_refl _) _⟩
            · have hR : Hid (R = (T, Dd)) := by show _ = _; rw [← hF2, if_neg (fun h => hc1 h.1)]
              have hc3 : K < (B : Int) := by omega
              clear hF2 hc1
              go_wp2_with fail
              refine bodyPost_ret (v := .agg #[.int .u8 0, .int .i64 T, .int .i64 Dd]) (by simp [results, Try.results53, go_sem, j0, j1, j2]) rfl ?_
              unfold BestPost
              rw [hR.out]
              exact ⟨rfl, ((hbr.setCell (p := ⟨w.heap.size, 0, none⟩) (Nat.le_refl _) _).setCell (p := ⟨w.heap.size, 1, none⟩) (Nat.le_refl _) _).setCell (p := ⟨w.heap.size, 2, none⟩) (Nat.le_refl _) _⟩
end
end Go.Proofs.Ytlgkiookobedcaa
namespace Go.Proofs.Ytlgkiookobedcaa
open Go.RowKit Go.Maps
set_option linter.unusedVariables false
theorem OwnI.set_ {k : IntKind} {w : World} {b0 g n c : Nat} {e : TypeId} {l : List Int} (h : OwnI k w b0 e (some ⟨g, 0, none⟩) n c l) {i : Nat} (hi : i < n) (v : Int) : OwnI k (w.setCell ⟨g, i, none⟩ (.int k v)) b0 e (some ⟨g, 0, none⟩) n c (l.set i v) :=
  ⟨by rw [List.length_set]; exact h.1, (h.2.set_ (i := i) (by omega) (.int k v)).congr fun j hj => by
    unfold upd
    rw [ix_set _ _ _ _ (by rw [← h.1]; exact hi)]
    split <;> rfl⟩
theorem drop_set {l : List Int} {i b : Nat} {v : Int} : (l.set (b + i) v).drop b = (l.drop b).set i v := by
  rw [List.drop_set, if_neg (by omega), Nat.add_sub_cancel_left]
section
variable {w w' w1 w2 : World} {b0 g p n c gm nm np cp gd : Nat} {e : Eff} {st : FSt} {A Ap : Option Addr} {Dm : DataW Unit}
theorem FndC.entered (h : FndC w b0 g e st p A n c gm nm Dm Ap np cp) (hp : p < st.D.length) {H : Int} (hH : hashAt st.D p = H) (hHb : 0 ≤ H ∧ H < 4294967296) (hne : ¬ (e.chain = 0 ∨ st.D.length < p + 3)) (hAp : blkOf Ap = some gd) (hc : Chg w w1 (fun k => k = gd))
    (ho : OwnI .i64 w1 b0 3 Ap np cp ((st.P.set p (was st H)).drop st.base)) (hg : w1.grownBy w2 (some gm)) (hm : w2.ownsMap Try.prog 47 (plainElem Try.prog 3) gm (nm + 1) (Dm.put (.int .u32 H) (.lit (.int .i64 p)))) :
    FndC w2 b0 g e (enterF e st p) (p + 1) A n c gm (nm + 1) (Dm.put (.int .u32 H) (.lit (.int .i64 p))) Ap np cp ∧ Chg w w2 (FF A gm Ap g) := by
  have hgd : gd ≠ g := fun e => h.d2 (by rw [hAp, e])
  have hgdm : gd ≠ gm := fun e => h.d6 (by rw [hAp, e])
  have hgdA : blkOf A ≠ some gd := fun e => h.d4 gd e hAp
  have hok := h.ok.enter (e := e) (p := p) hp
  have hE : enterF e st p = { st with P := st.P.set p (was st H), head := fun x => if x = H then some (p : Int) else st.head x } := by unfold enterF; rw [if_neg hne, hH]
  have hc2 : Chg w1 w2 (fun k => k = gm) := (Chg.refl w1 _).grown hg fun k hk => by injection hk with hk; exact .inl hk.symm
  have hkl : WideAt.IsKeyLit (.int .u32 H) := by exact (by trivial)
  rw [hE] at hok ⊢
  refine ⟨⟨hc2.ar (hc.ar h.cell fun e => hgd e.symm) fun e => h.d3 e.symm, h.lo, hc2.ownI (hc.ownI h.own fun q hq e => hgdA (by rw [hq, e])) fun q hq e => h.d5 (by rw [hq, e]), hc2.ownI ho fun q hq e => h.d6 (by rw [hq, e]), hm, h.rep.put H p hkl, h.glo, by have := h.nmb; omega, h.d1, h.d2, h.d3, h.d4, h.d5, h.d6, hok, h.by_, h.eb, h.big⟩, ?_⟩
  exact (hc.more fun k hk => .inr (.inr (.inr (by rw [hAp, hk])))).trans (hc2.more fun k hk => .inr (.inl hk)) fun k hk => .inl hk
def EnterPost (w : World) (b0 g : Nat) (e : Eff) (st : FSt) (b : Nat) (A : Option Addr) (n c gm : Nat) (Ap : Option Addr) (np cp : Nat) (r : Ending) (w' : World) : Prop :=
  r = .returned (.tuple #[]) ∧ (∃ nm Dm, FndC w' b0 g e st b A n c gm nm Dm Ap np cp) ∧ Chg w w' (FF A gm Ap g)
set_option maxRecDepth 100000 in
set_option maxHeartbeats 4000000 in
theorem enter_any (p : Nat) (h : FndC w b0 g e st p A n c gm nm Dm Ap np cp) (hp : st.base ≤ p) (hp2 : p < st.D.length) :
    Calls Try.prog 57 #[.pointer (some ⟨g, 0, none⟩), .int .i64 p] w (EnterPost w b0 g e (enterF e st p) (p + 1) A n c gm Ap np cp) := by
  obtain ⟨c0, c1, -, c3, c4, -, c6, c7⟩ := ff_c h
  have hb := h.big
  have heb := h.eb
  have hend := end_any h
  have hsame : e.chain = 0 ∨ st.D.length < p + 3 → ∀ q, EnterPost w b0 g e (enterF e st p) (p + 1) A n c gm Ap np cp (.returned (.tuple #[])) (w.drewN q) := fun hc q => by
    have hE : enterF e st p = st := by unfold enterF; rw [if_pos hc]
    have hq := h.drewN q
    rw [hE]
    exact ⟨rfl, ⟨nm, Dm, hq.cell, hq.lo, hq.own, hq.ownp, hq.map, hq.rep, hq.glo, by have := hq.nmb; omega, hq.d1, hq.d2, hq.d3, hq.d4, hq.d5, hq.d6, ⟨hq.ok.len, hq.ok.lo, hq.ok.hi, hp2, hq.ok.prev, fun x k hk => by have := hq.ok.hd x k hk; omega⟩, hq.by_, hq.eb, hq.big⟩, (Chg.refl w _).drewN q⟩
  have HS := Lib.hid hsame
  clear hsame
  obtain ⟨L, hL⟩ : ∃ L, st.D.length = L := ⟨_, rfl⟩
  obtain ⟨ch, hch⟩ : ∃ ch, e.chain = ch := ⟨_, rfl⟩
  rw [hch] at c0 heb
  rw [hL] at hb hend
  have hI : (p : Int) < L ∧ (L : Int) ≤ 100000000000 ∧ (0 : Int) ≤ p ∧ (0 : Int) ≤ ch ∧ (ch : Int) ≤ 256 := by omega
  have HL := Lib.hid hL
  have HCH := Lib.hid hch
  clear hL hch
  by_cases hc0 : ch = 0
  · subst hc0
    go_enter Try.func57, Try.ntmps57
    go_wp2_with fail
    go_returns
    exact HS.out (.inl HCH.out) 0
  · have hc0I : ((ch : Int) == 0) = false := by simpa using hc0
    by_cases hsh : L < p + 3
    · have hshI : (L : Int) < (p : Int) + 3 := by omega
      go_enter Try.func57, Try.ntmps57
      go_wp2_with fail
      refine hend.mono ?_
      rintro r w1 ⟨rfl, q1, rfl⟩
      go_wp2_with fail
      go_returns
      exact HS.out (.inr (by rw [HL.out]; exact hsh)) q1
    · have hshI : ¬ (L : Int) < (p : Int) + 3 := by omega
      obtain ⟨H, hH⟩ : ∃ H, hashAt st.D p = H := ⟨_, rfl⟩
      have hHb : 0 ≤ H ∧ H < 4294967296 := by rw [← hH]; have := hs3_bd (ix st.D p) (ix st.D (p + 1)) (ix st.D (p + 2)); unfold hashAt; omega
      have hhash : ∀ m, Calls Try.prog 70 #[.pointer (some ⟨g, 0, none⟩), .int .i64 p] (w.drewN m) fun r w' => r = .returned (.int .u32 H) ∧ ∃ q, w' = (w.drewN m).drewN q := fun m => by
        have := hash_any (h.drewN m) p hp (by rw [HL.out]; omega)
        rwa [hH] at this
      obtain ⟨i, hi⟩ : ∃ i, p = st.base + i := ⟨p - st.base, by omega⟩
      have hin : i < n := by have := h.n_eq; have := HL.out; omega
      have hnp := h.np_eq
      obtain ⟨gd, hA, cc⟩ := h.place hin
      have hown := h.ownp
      have hmap := h.map
      have hne : ¬ (e.chain = 0 ∨ st.D.length < p + 3) := by rw [HL.out, HCH.out]; omega
      have hgd : gd ≠ g := fun e2 => h.d2 (by rw [hA, ← e2]; rfl)
      have hgd2 : g ≠ gd := fun e2 => hgd e2.symm
      have hgdm : gm ≠ gd := fun e2 => h.d6 (by rw [hA, e2]; rfl)
      rw [hA] at hown c7
      have zf := hown.2.frozen i
      have hent := fun w1 w2 => h.entered (w1 := w1) (w2 := w2) (gd := gd) hp2 hH hHb hne (by rw [hA]; rfl)
      rw [hA] at hent
      have HENT := Lib.hid hent
      obtain ⟨B, hB⟩ : ∃ B, st.base = B := ⟨_, rfl⟩
      have hset : ∀ v, (st.P.set p v).drop st.base = (st.P.drop st.base).set i v := fun v => by rw [hi, drop_set]
      have HSET := Lib.hid hset
      rw [hB] at c4
      have hwI : IntKind.i64.wrap ((p : Int) - (B : Int)) = (i : Int) := by rw [IntWalk.i64_in _ (by omega)]; omega
      have hKB : (p : Int) - (B : Int) = (i : Int) := by omega
      have hinI : (0 : Int) ≤ i ∧ (i : Int) < (np : Int) := by omega
      have hnmb := h.nmb
      have hw0 := h.look hHb 0
      have hlk := h.look hHb
      have hinp : i < np := by omega
      obtain ⟨hd, hhd⟩ : ∃ hd, st.head H = hd := ⟨_, rfl⟩
      have hwas : Hid (was st H = hd.getD (-1)) := by show _ = _; unfold was; rw [hhd]
      have hrep := (h.rep.2 H).1
      have hrep2 : Hid (Dm.atKey (.int .u32 H) (.lit (.int .i64 0)) = .lit (.int .i64 (hd.getD 0))) := by show _ = _; rw [← hhd]; exact (h.rep.2 H).2
      rw [hhd] at hlk hrep
      have hgs := h.cell.lt
      obtain ⟨V, hV⟩ : ∃ V, ix st.P (st.base + i) = V := ⟨_, rfl⟩
      rw [hV] at cc
      have hA3 := Lib.hid hA
      have hmax : nm < maxLen := by unfold maxLen; omega
      have hpw : (Lit.int .i64 (p : Int)).wf = true := by simp [Lit.wf, IntKind.min, IntKind.max, IntKind.signed, IntKind.bits]; omega
      clear hH hi hin hB hne hent hset hhd hw0 hV hA hnp
      cases hd with
      | none =>
        simp only [Option.getD_none, Option.isSome_none] at hlk
        go_enter Try.func57, Try.ntmps57
        go_wp2_with fail
        refine hend.mono ?_
        rintro r w1 ⟨rfl, q1, rfl⟩
        go_wp2_with fail
        refine (hhash q1).mono ?_
        rintro r w1 ⟨rfl, q2, rfl⟩
        go_wp2_with fail
        go_region
        have hc1 : Chg w ((w.drewN (q1 + q2 + 1)).setCell ⟨gd, i, none⟩ (.int .i64 (-1))) (fun k => k = gd) := ((Chg.refl w (fun k => k = gd)).drewN _).setCell (p := ⟨gd, i, none⟩) (.inl rfl) _
        have hm1 := map_keep hmap (hc1.block gm hmap.lt hgdm)
        have ho1 := OwnI.set_ (hown.drewN (q1 + q2 + 1)) hinp (-1)
        go_wp2_with (first
          | (at_lookup; refine wpList_lookup_own_ok_int _ rfl _ _ 75 rfl 47 3 .i64 law32 Try.underlying75 Try.underlying3 (zeroInt _) gm nm Dm rfl hm1 _ _ rfl (key32 hHb) ?_; intro c hat hwc; rw [hrep]; simp only [Option.isSome_none])
          | (at_mapUpdate; refine wpList_mapUpdate_own _ rfl _ _ _ 75 rfl 47 3 law32 Try.underlying75 (plainElem Try.prog 3) gm nm Dm rfl hm1 hmax _ _ _ rfl rfl (key32 hHb) _ [] (plainElem_int Try.underlying3 hpw) ?_; intro w5 hown5 hgrow5))
        go_returns
        obtain ⟨r1, r2⟩ := HENT.out _ w5 hc1 (by rw [hwas.out, HSET.out]; exact ho1) hgrow5 hown5
        exact ⟨rfl, ⟨_, _, by rw [hA3.out]; exact r1⟩, by rw [hA3.out]; exact r2⟩
      | some k =>
        simp only [Option.getD_some, Option.isSome_some] at hlk
        go_enter Try.func57, Try.ntmps57
        go_wp2_with fail
        refine hend.mono ?_
        rintro r w1 ⟨rfl, q1, rfl⟩
        go_wp2_with fail
        refine (hhash q1).mono ?_
        rintro r w1 ⟨rfl, q2, rfl⟩
        go_wp2_with fail
        go_region
        have hc1 : Chg w ((w.drewN (q1 + q2 + 1)).setCell ⟨gd, i, none⟩ (.int .i64 (-1))) (fun k => k = gd) := ((Chg.refl w (fun k => k = gd)).drewN _).setCell (p := ⟨gd, i, none⟩) (.inl rfl) _
        have hm1 := map_keep hmap (hc1.block gm hmap.lt hgdm)
        have ho1 := OwnI.set_ (hown.drewN (q1 + q2 + 1)) hinp (-1)
        go_wp2_with (at_lookup; refine wpList_lookup_own_ok_int _ rfl _ _ 75 rfl 47 3 .i64 law32 Try.underlying75 Try.underlying3 (zeroInt _) gm nm Dm rfl hm1 _ _ rfl (key32 hHb) ?_; intro c hat hwc; rw [hrep]; simp only [Option.isSome_some])
        have hck : c = k := by
          have h5 := hrep2.out
          rw [hat] at h5
          injection h5 with h5
          injection h5
        subst hck
        have zf1 := ho1.2.frozen i
        have cc1 := ho1.2.cell (i := i) (by omega)
        have hc2 : Chg w ((((w.drewN (q1 + q2 + 1)).setCell ⟨gd, i, none⟩ (.int .i64 (-1))).drew).setCell ⟨gd, i, none⟩ (.int .i64 c)) (fun k => k = gd) := hc1.drew.setCell (p := ⟨gd, i, none⟩) (.inl rfl) _
        have hm2 := map_keep hmap (hc2.block gm hmap.lt hgdm)
        have ho2 := OwnI.set_ ho1.drew hinp c
        rw [List.set_set] at ho2
        go_region
        go_wp2_with (at_mapUpdate; refine wpList_mapUpdate_own _ rfl _ _ _ 75 rfl 47 3 law32 Try.underlying75 (plainElem Try.prog 3) gm nm Dm rfl hm2 hmax _ _ _ rfl rfl (key32 hHb) _ [] (plainElem_int Try.underlying3 hpw) ?_; intro w5 hown5 hgrow5)
        go_returns
        obtain ⟨r1, r2⟩ := HENT.out _ w5 hc2 (by rw [hwas.out, HSET.out]; exact ho2) hgrow5 hown5
        exact ⟨rfl, ⟨_, _, by rw [hA3.out]; exact r1⟩, by rw [hA3.out]; exact r2⟩
end
end Go.Proofs.Ytlgkiookobedcaa
namespace Go.Proofs.Ytlgkiookobedcaa
open Go.RowKit Go.Maps
set_option linter.unusedVariables false
theorem pass_succ (e : Eff) (n : Nat) (st : FSt) : passF e (n + 1) st = moved (enterF e (passF e n st) (passF e n st).at_) := by
  induction n generalizing st with
  | zero => rfl
  | succ n ih => rw [passF, ih]; rfl
section
variable {w w' w1 w2 : World} {b0 g b n c gm nm np cp : Nat} {e : Eff} {st : FSt} {A Ap : Option Addr} {Dm : DataW Unit}
theorem FndC.moved (h : FndC w b0 g e st (st.at_ + 1) A n c gm nm Dm Ap np cp) {T : Int} (hT : T = (st.at_ : Int) + 1) :
    FndC (w.setCell ⟨g, 5, none⟩ (.int .i64 T)) b0 g e (moved st) (st.at_ + 1) A n c gm nm Dm Ap np cp ∧ Chg w (w.setCell ⟨g, 5, none⟩ (.int .i64 T)) (FF A gm Ap g) := by
  subst hT
  have hc : Chg w (w.setCell ⟨g, 5, none⟩ (.int .i64 ((st.at_ : Int) + 1))) (fun k => k = g) := (Chg.refl w (fun k => k = g)).setCell (p := ⟨g, 5, none⟩) (.inl rfl) _
  refine ⟨⟨(h.cell.set_ (i := 5) (by omega) _).congr fun i hi => ?_, h.lo, hc.ownI h.own fun q hq e => h.d1 (by rw [hq, e]), hc.ownI h.ownp fun q hq e => h.d2 (by rw [hq, e]), map_keep h.map (hc.block gm h.map.lt h.d3), h.rep, h.glo, h.nmb, h.d1, h.d2, h.d3, h.d4, h.d5, h.d6, h.ok.moved, h.by_, h.eb, h.big⟩, hc.more fun k hk => .inl hk⟩
  obtain rfl | rfl | rfl | rfl | rfl | rfl | rfl | rfl : i = 0 ∨ i = 1 ∨ i = 2 ∨ i = 3 ∨ i = 4 ∨ i = 5 ∨ i = 6 ∨ i = 7 := by omega
  all_goals rfl
def PassRel (w : World) (b0 g : Nat) (e : Eff) (st : FSt) (A : Option Addr) (n c gm : Nat) (Ap : Option Addr) (np cp N : Nat) (i : Value) (wr : World) : Prop :=
  ∃ (k nm : Nat) (Dm : DataW Unit), k ≤ N ∧ i = .int .i64 k ∧ FndC wr b0 g e (passF e k st) (st.at_ + k) A n c gm nm Dm Ap np cp ∧ Chg w wr (FF A gm Ap g)
set_option maxRecDepth 100000 in
set_option maxHeartbeats 4000000 in
theorem pass_any (N : Nat) (h : FndC w b0 g e st st.at_ A n c gm nm Dm Ap np cp) (hN : st.at_ + N ≤ st.D.length) :
    Calls Try.prog 55 #[.pointer (some ⟨g, 0, none⟩), .int .i64 N] w (EnterPost w b0 g e (passF e N st) (st.at_ + N) A n c gm Ap np cp) := by
  have hst : PassRel w b0 g e st A n c gm Ap np cp N (.int .i64 0) w := ⟨0, nm, Dm, Nat.zero_le _, rfl, h, Chg.refl w _⟩
  have hok := h.ok
  have hbig := h.big
  have HOK := Lib.hid hok
  go_enter Try.func55, Try.ntmps55
  go_wp2_with fail
  go_loopw [5] (PassRel w b0 g e st A n c gm Ap np cp N) (fun i _ => N - (intOf i).toNat)
  case atStart => exact hst
  case round =>
    clear hst hok
    obtain ⟨k, nm', Dm', hk, rfl, hf, hc⟩ := hrel
    by_cases hlt : k < N
    · have hkI : (k : Int) < (N : Int) ∧ (0 : Int) ≤ k ∧ (k : Int) ≤ 100000000000 := by omega
      obtain ⟨-, r2, r3, r4⟩ := pass_ok (e := e) (n := k) HOK.out (by omega)
      have hat : (passF e k st).at_ = st.at_ + k := r3
      have hs : Hid (passF e (k + 1) st = moved (enterF e (passF e k st) (st.at_ + k))) := by show _ = _; rw [pass_succ, r3]
      have hbase : (passF e k st).base ≤ st.at_ + k := by rw [r4]; have := HOK.out.lo; omega
      have hen := enter_any (st.at_ + k) hf hbase (by rw [r2]; omega)
      obtain ⟨-, -, -, -, -, c5, -, -⟩ := ff_c hf
      rw [hat] at c5
      obtain ⟨T, hT⟩ : ∃ T, st.at_ + k = T := ⟨_, rfl⟩
      have hT2 : Hid (st.at_ + (k + 1) = T + 1) := by show _ = _; omega
      have hTI : (0 : Int) ≤ T ∧ (T : Int) ≤ 100000000000 := by omega
      rw [hT] at hen c5 hs
      have hat2 : Hid ((enterF e (passF e k st) T).at_ = T) := by show _ = _; rw [(enter_D e _ _).2.1, hat, hT]
      clear hat hT r2 r3 r4 hbase hN
      go_wp2_with fail
      refine hen.mono ?_
      rintro r w5 ⟨rfl, ⟨nm5, Dm5, hf5⟩, hc5⟩
      obtain ⟨-, -, -, -, -, c5b, -, -⟩ := ff_c hf5
      have z5 := hf5.cell.frozen' (i := 5) (by omega)
      rw [hat2.out] at c5b
      have hf5' : FndC w5 b0 g e (enterF e (passF e k st) T) ((enterF e (passF e k st) T).at_ + 1) A n c gm nm5 Dm5 Ap np cp := by rw [hat2.out]; exact hf5
      obtain ⟨hf6, hc6⟩ := hf5'.moved (T := (T : Int) + 1) (by rw [hat2.out])
      rw [hat2.out] at hf6
      have hrel2 : PassRel w b0 g e st A n c gm Ap np cp N (.int .i64 ((k : Int) + 1)) (w5.setCell ⟨g, 5, none⟩ (.int .i64 ((T : Int) + 1))) :=
        ⟨k + 1, nm5, Dm5, hlt, by go_num, by rw [hs.out, hT2.out]; exact hf6, (hc.trans hc5 fun q hq => .inl hq).trans hc6 fun q hq => .inl hq⟩
      clear hf5 hf6 hc5 hc6 hf5'
      go_wp2_with fail
      go_roundw
      case rel => exact hrel2
      case measure => simp [intOf]; omega
    · obtain rfl : k = N := by omega
      go_wp2_with fail
      go_returns
      exact ⟨rfl, ⟨_, _, hf⟩, hc⟩
end
end Go.Proofs.Ytlgkiookobedcaa
namespace Go.Proofs.Ytlgkiookobedcaa
open Go.RowKit Go.Maps
set_option linter.unusedVariables false
def tkT (a b c : Int) : Nat → Value
  | 0 => .int .u8 a
  | 1 => .int .i64 b
  | _ => .int .i64 c
theorem new_tkT (w : World) (a b c : Int) : Ar (w.alloc (.cells #[.int .u8 a, .int .i64 b, .int .i64 c] 68)) w.heap.size 3 (tkT a b c) :=
  Ar.new w #[.int .u8 a, .int .i64 b, .int .i64 c] 68 (show (#[.int .u8 a, .int .i64 b, .int .i64 c] : Array Value).size = 3 from rfl) fun i hi => by
    obtain rfl | rfl | rfl : i = 0 ∨ i = 1 ∨ i = 2 := by omega
    all_goals rfl
theorem tkT_cells {w : World} {g : Nat} {a b c : Int} (h : Ar w g 3 (tkT a b c)) : w.cell? ⟨g, 0, none⟩ = some (.int .u8 a) ∧ w.cell? ⟨g, 1, none⟩ = some (.int .i64 b) ∧ w.cell? ⟨g, 2, none⟩ = some (.int .i64 c) ∧
    w.frozen? ⟨g, 0, none⟩ = false ∧ w.frozen? ⟨g, 1, none⟩ = false ∧ w.frozen? ⟨g, 2, none⟩ = false :=
  ⟨h.cell (i := 0) (by omega), h.cell (i := 1) (by omega), h.cell (i := 2) (by omega), h.frozen' (i := 0) (by omega), h.frozen' (i := 1) (by omega), h.frozen' (i := 2) (by omega)⟩
def NextPost (w : World) (b0 g : Nat) (e : Eff) (R : Tok × FSt) (A : Option Addr) (n c gm : Nat) (Ap : Option Addr) (np cp : Nat) (r : Ending) (w' : World) : Prop :=
  r = .returned (.agg #[.int .u8 R.1.lit, .int .i64 R.1.len, .int .i64 R.1.dist]) ∧ (∃ nm Dm, FndC w' b0 g e R.2 R.2.at_ A n c gm nm Dm Ap np cp) ∧ Chg w w' (FF A gm Ap g)
section
variable {w w' w1 w2 : World} {b0 g b n c gm nm np cp : Nat} {e : Eff} {st : FSt} {A Ap : Option Addr} {Dm : DataW Unit}
theorem next_fin {wX : World} {F : Nat → Value} {a x y : Int} {st' : FSt} (h : FndC w b0 g e st b A n c gm nm Dm Ap np cp) {nm' : Nat} {Dm' : DataW Unit} (hX : FndC wX b0 g e st' st'.at_ A n c gm nm' Dm' Ap np cp) (hc : Chg w wX (FF A gm Ap g)) (ar : Ar wX w.heap.size 3 F) :
    NextPost w b0 g e (⟨a, x, y⟩, st') A n c gm Ap np cp (.returned (.agg #[.int .u8 a, .int .i64 x, .int .i64 y])) (((wX.setCell ⟨w.heap.size, 0, none⟩ (.int .u8 a)).setCell ⟨w.heap.size, 1, none⟩ (.int .i64 x)).setCell ⟨w.heap.size, 2, none⟩ (.int .i64 y)) := by
  have hs : Chg wX (((wX.setCell ⟨w.heap.size, 0, none⟩ (.int .u8 a)).setCell ⟨w.heap.size, 1, none⟩ (.int .i64 x)).setCell ⟨w.heap.size, 2, none⟩ (.int .i64 y)) (fun k => k = w.heap.size) :=
    (((Chg.refl wX (fun k => k = w.heap.size)).setCell (p := ⟨w.heap.size, 0, none⟩) (.inl rfl) _).setCell (p := ⟨w.heap.size, 1, none⟩) (.inl rfl) _).setCell (p := ⟨w.heap.size, 2, none⟩) (.inl rfl) _
  exact ⟨rfl, ⟨nm', Dm', hX.chg hs fun k hk e => by have := (h.foot_lo hk).2; omega⟩, hc.trans hs fun k hk => .inr (by omega)⟩
set_option maxRecDepth 100000 in
set_option maxHeartbeats 4000000 in
theorem next_any (h : FndC w b0 g e st st.at_ A n c gm nm Dm Ap np cp) (hlt : st.at_ < st.D.length) :
    Calls Try.prog 41 #[.pointer (some ⟨g, 0, none⟩)] w (NextPost w b0 g e (nextF e st) A n c gm Ap np cp) := by
  have hgood := best_good (e := e) h.ok
  obtain ⟨N1, hN1, -, hN3, hok2, hD2, hat2, hbase2, -⟩ := next_ok (e := e) h.ok hlt
  have hnext : nextF e st = (if (bestOf e st st.at_).1 = 0 then (litAt st, passF e 1 st)
    else if e.lazy = true ∧ (bestOf e st st.at_).1 < e.nice ∧ st.at_ + 1 < st.D.length then
      (if (bestOf e st st.at_).1 < (bestOf e (enterF e st st.at_) (st.at_ + 1)).1 then (litAt st, moved (enterF e st st.at_))
      else (⟨0, (bestOf e st st.at_).1, (bestOf e st st.at_).2⟩, passF e ((bestOf e st st.at_).1 - 1) (moved (enterF e st st.at_))))
    else (⟨0, (bestOf e st st.at_).1, (bestOf e st st.at_).2⟩, passF e (bestOf e st st.at_).1 st)) := rfl
  obtain ⟨R, hR⟩ : ∃ R, nextF e st = R := ⟨_, rfl⟩
  obtain ⟨B, hB⟩ : ∃ B, bestOf e st st.at_ = B := ⟨_, rfl⟩
  rw [hB] at hgood
  rw [hR, hB] at hnext
  rw [hR]
  obtain ⟨L, d⟩ := B
  have hLb : L ≤ 258 ∧ d ≤ 32768 ∧ st.at_ + L ≤ st.D.length := by
    rcases hgood with ⟨h1, h2⟩ | ⟨-, h1, h2, -, h3, -⟩
    · dsimp only at h1 h2; omega
    · dsimp only at h1 h2 h3; omega
  have hLI : (0 : Int) ≤ L ∧ (L : Int) ≤ 258 ∧ (0 : Int) ≤ d ∧ (d : Int) ≤ 32768 := by omega
  have hgs := h.cell.lt
  have hb0 := (Below.refl w.heap.size w).alloc (Nat.le_refl _) (.cells #[.int .u8 0, .int .i64 0, .int .i64 0] 68)
  have h0 := h.keeps hb0
  have ar0 := new_tkT w 0 0 0
  have hbest := best_any st.at_ h0 h.ok.lo
  rw [hB] at hbest
  have hbig := h.big
  obtain ⟨T, hT⟩ : ∃ T, st.at_ = T := ⟨_, rfl⟩
  have hTI : (0 : Int) ≤ T ∧ (T : Int) ≤ 100000000000 := by omega
  obtain ⟨c0, c1, c2, c3, c4, c5, c6, c7⟩ := ff_c h
  rw [hT] at c5
  have HNX := Lib.hid hnext
  have HB := Lib.hid hB
  have HT := Lib.hid hT
  obtain ⟨v, hv⟩ : ∃ v, ix st.D st.at_ = v := ⟨_, rfl⟩
  have hlit : Hid (litAt st = ⟨v, 0, 0⟩) := by show _ = _; unfold litAt; rw [hv]
  rw [hT] at hbest
  have hget : ∀ W, FndC W b0 g e st st.at_ A n c gm nm Dm Ap np cp → Calls Try.prog 54 #[.pointer (some ⟨g, 0, none⟩), .int .i64 T] W fun r w' => r = .returned (.int .u8 v) ∧ ∃ q, w' = W.drewN q := fun W hf => by
    have := get_any hf st.at_ h.ok.lo hlt
    rwa [hv, hT] at this
  have hltH := Lib.hid hlt
  clear hnext hB hT hv hgood hok2 hD2 hat2 hbase2 hN3 hN1 hlt hR
  go_enter Try.func41, Try.ntmps41
  go_wp2_with fail
  refine hbest.mono ?_
  rintro r w1 ⟨rfl, hb1⟩
  dsimp only
  have hb01 := hb0.trans (hb1.mono hb0.size)
  have ar1 := ar0.keeps hb1
  have hbt := hb01.alloc hb01.size (.cells #[.int .u8 0, .int .i64 L, .int .i64 d] 68)
  have hft := h.keeps hbt
  have c5t := (ff_c hft).2.2.2.2.2.1
  rw [HT.out] at c5t
  have at1 := new_tkT w1 0 L d
  have ar2 := ar1.alloc (.cells #[.int .u8 0, .int .i64 L, .int .i64 d] 68)
  obtain ⟨G, hG⟩ : ∃ G, w1.heap.size = G := ⟨_, rfl⟩
  have hgG : g < G := by have := hb01.size; omega
  have hwG : w.heap.size < G := by have := ar1.lt; omega
  rw [hG] at at1
  go_wp2_with fail
  refine (hget _ hft).mono ?_
  rintro r w2 ⟨rfl, q2, rfl⟩
  go_upto_region 3 with fail
  have hb3 := (below_drewN hbt q2).alloc (below_drewN hbt q2).size (.cells #[.int .u8 v, .int .i64 0, .int .i64 0] 68)
  have ar3 := (ar2.drewN q2).alloc (.cells #[.int .u8 v, .int .i64 0, .int .i64 0] 68)
  have at3 := (at1.drewN q2).alloc (.cells #[.int .u8 v, .int .i64 0, .int .i64 0] 68)
  have al3 := new_tkT ((w1.alloc (.cells #[.int .u8 0, .int .i64 L, .int .i64 d] 68)).drewN q2) v 0 0
  have hsz : ((w1.alloc (.cells #[.int .u8 0, .int .i64 L, .int .i64 d] 68)).drewN q2).heap.size = G + 1 := by rw [← hG]; simp [World.drewN]
  rw [hsz] at al3
  clear hsz
  generalize ((w1.alloc (.cells #[.int .u8 0, .int .i64 L, .int .i64 d] 68)).drewN q2).alloc (.cells #[.int .u8 v, .int .i64 0, .int .i64 0] 68) = w3 at *
  clear ar2 ar1 ar0 at1 hbt hft c5t hb01 hb1 hb0 h0 hbest
  have hf3 := h.keeps hb3
  have hc3 : Chg w w3 (FF A gm Ap g) := Chg.of_below hb3
  have hFF : Hid (∀ k, w.heap.size ≤ k → ¬ FF A gm Ap g k) := fun k hk hF => by have := (h.foot_lo hF).2; omega
  obtain ⟨c0, c1, c2, c3, c4, c5, c6, c7⟩ := ff_c hf3
  rw [HT.out] at c5
  obtain ⟨t0, t1, t2, -, -, -⟩ := tkT_cells at3
  obtain ⟨l0, l1, l2, -, -, -⟩ := tkT_cells al3
  by_cases hL0 : L = 0
  · have hRR : Hid (R = (⟨v, 0, 0⟩, passF e 1 st)) := by show _ = _; rw [HNX.out, if_pos hL0, hlit.out]
    have hp := pass_any 1 hf3 hltH.out
    have hLz : (L : Int) = 0 := by omega
    obtain ⟨-, -, r3, -⟩ := pass_ok (e := e) (n := 1) h.ok hltH.out
    have hat3 := Lib.hid r3
    clear r3 hG
    go_wp2_with fail
    refine hp.mono ?_
    rintro r w4 ⟨rfl, ⟨nm4, Dm4, hf4⟩, hc4⟩
    have ar4 := hc4.ar ar3 (hFF.out _ (Nat.le_refl _))
    have al4 := hc4.ar al3 (hFF.out _ (by omega))
    have hf4' : FndC w4 b0 g e (passF e 1 st) (passF e 1 st).at_ A n c gm nm4 Dm4 Ap np cp := by rw [hat3.out]; exact hf4
    have hcc := hc3.trans hc4 fun k hk => .inl hk
    obtain ⟨l0, l1, l2, -, -, -⟩ := tkT_cells al4
    obtain ⟨j0, j1, j2, z0, z1, z2⟩ := tkT_cells ar4
    go_wp2_with fail
    refine bodyPost_ret (v := .agg #[.int .u8 v, .int .i64 0, .int .i64 0]) (by simp [results, Try.results41, go_sem, j0, j1, j2]) rfl ?_
    rw [hRR.out]
    exact next_fin h hf4' hcc ar4
  · have hend : Hid (∀ q, Calls Try.prog 56 #[.pointer (some ⟨g, 0, none⟩)] (w3.drewN q) fun r w' => r = .returned (.int .i64 st.D.length) ∧ ∃ m, w' = (w3.drewN q).drewN m) := fun q => end_any (hf3.drewN q)
    obtain ⟨DL, hDL⟩ : ∃ DL, st.D.length = DL := ⟨_, rfl⟩
    rw [hDL] at hend hLb hbig
    obtain ⟨lz, hlz⟩ : ∃ lz, e.lazy = lz := ⟨_, rfl⟩
    obtain ⟨nc, hnc⟩ : ∃ nc, e.nice = nc := ⟨_, rfl⟩
    rw [hlz] at c2
    rw [hnc] at c1
    have hL0I : ((L : Int) == 0) = false := by simpa using hL0
    have hLD : Hid (st.at_ + L ≤ st.D.length) := by show _ ≤ _; rw [hDL]; exact hLb.2.2
    obtain ⟨-, -, r3, -⟩ := pass_ok (e := e) (n := L) h.ok hLD.out
    have hat3 := Lib.hid r3
    have HDL := Lib.hid hDL
    have hNX2 : Hid (R = if lz = true ∧ L < nc ∧ T + 1 < DL then
        (if L < (bestOf e (enterF e st T) (T + 1)).1 then (litAt st, moved (enterF e st T)) else (⟨0, L, d⟩, passF e (L - 1) (moved (enterF e st T))))
        else (⟨0, L, d⟩, passF e L st)) := by
      show _ = _
      rw [HNX.out, if_neg hL0, hlz, hnc, hDL, HT.out]
    have hc4' : ∀ q, Chg w3 (w3.drewN q) (FF A gm Ap g) := fun q => (Chg.refl w3 _).drewN q
    have hDI : (DL : Int) ≤ 100000000000 := by omega
    clear r3 hG hDL hL0 hlz hnc hbig HNX
    cases lz with
    | false =>
      have hRR : Hid (R = (⟨0, L, d⟩, passF e L st)) := by show _ = _; rw [hNX2.out, if_neg (fun h => by simp at h)]
      clear hNX2
      go_wp2_with fail
      go_quiet ((go_at_call 56; exact Calls.quiet_of (hend.out _)))
      go_wp2_with fail
      refine (pass_any L (hf3.drewN _) hLD.out).mono ?_
      rintro r w4 ⟨rfl, ⟨nm4, Dm4, hf4⟩, hc4⟩
      have hc4' := hc3.trans ((hc4' nq).trans hc4 fun k hk => .inl hk) fun k hk => .inl hk
      have ar4 := hc4.ar (ar3.drewN nq) (hFF.out _ (Nat.le_refl _))
      have at4 := hc4.ar (at3.drewN nq) (hFF.out _ (by omega))
      have hf4' : FndC w4 b0 g e (passF e L st) (passF e L st).at_ A n c gm nm4 Dm4 Ap np cp := by rw [hat3.out]; exact hf4
      obtain ⟨t0, t1, t2, -, -, -⟩ := tkT_cells at4
      obtain ⟨j0, j1, j2, z0, z1, z2⟩ := tkT_cells ar4
      go_wp2_with fail
      refine bodyPost_ret (v := .agg #[.int .u8 0, .int .i64 L, .int .i64 d]) (by simp [results, Try.results41, go_sem, j0, j1, j2]) rfl ?_
      rw [hRR.out]
      exact next_fin h hf4' hc4' ar4
    | true =>
      by_cases hnice : L < nc
      · have hniI : (L : Int) < (nc : Int) := by omega
        by_cases hroom : T + 1 < DL
        · have hroI : (T : Int) + 1 < (DL : Int) := by omega
          have hNX3 : Hid (R = if L < (bestOf e (enterF e st T) (T + 1)).1 then (litAt st, moved (enterF e st T)) else (⟨0, L, d⟩, passF e (L - 1) (moved (enterF e st T)))) := by show _ = _; rw [hNX2.out, if_pos ⟨rfl, hnice, hroom⟩]
          have hen : Hid (∀ q, Calls Try.prog 57 #[.pointer (some ⟨g, 0, none⟩), .int .i64 T] (w3.drewN q) (EnterPost (w3.drewN q) b0 g e (enterF e st T) (T + 1) A n c gm Ap np cp)) := fun q => by
            have := enter_any st.at_ (hf3.drewN q) h.ok.lo hltH.out
            rwa [HT.out] at this
          have hD5 := enter_D e st T
          have hat5 : Hid ((enterF e st T).at_ = T) := by show _ = _; rw [hD5.2.1, HT.out]
          have hbase5 : (enterF e st T).base ≤ T + 1 := by rw [hD5.2.2]; have := h.ok.lo; have := HT.out; omega
          have hDD : Hid ((moved (enterF e st T)).D.length = DL) := by show _ = _; rw [← HDL.out]; exact congrArg List.length hD5.1
          have hgood := best_good (e := e) (st := enterF e st T) (p := T + 1) (by
            have := h.ok.enter (e := e) (p := st.at_) hltH.out
            rwa [HT.out] at this)
          obtain ⟨⟨U, ud⟩, hU⟩ : ∃ U, bestOf e (enterF e st T) (T + 1) = U := ⟨_, rfl⟩
          rw [hU] at hNX3 hgood
          have hUb : U ≤ 258 ∧ ud ≤ 32768 := by
            rcases hgood with ⟨h1, h2⟩ | ⟨-, h1, h2, -, h3, -⟩
            · dsimp only at h1 h2; omega
            · dsimp only at h1 h2 h3; omega
          have HU := Lib.hid hU
          have hT1 : ((T + 1 : Nat) : Int) = (T : Int) + 1 := by omega
          have HT1 := Lib.hid hT1
          clear hNX2 hD5 hgood hU hT1
          go_wp2_with fail
          go_quiet ((go_at_call 56; exact Calls.quiet_of (hend.out _)))
          go_wp2_with fail
          refine (hen.out _).mono ?_
          rintro r w5 ⟨rfl, ⟨nm5, Dm5, hf5⟩, hc5⟩
          have hc35 := hc3.trans ((hc4' nq).trans hc5 fun k hk => .inl hk) fun k hk => .inl hk
          have ar5 := hc5.ar (ar3.drewN nq) (hFF.out _ (Nat.le_refl _))
          have at5 := hc5.ar (at3.drewN nq) (hFF.out _ (by omega))
          have al5 := hc5.ar (al3.drewN nq) (hFF.out _ (by omega))
          obtain ⟨-, -, -, -, -, c55, -, -⟩ := ff_c hf5
          rw [hat5.out] at c55
          have hbest5 := best_any (T + 1) hf5 hbase5
          rw [HU.out, HT1.out] at hbest5
          clear hf3 hc3 ar3 at3 al3 hb3 c0 c1 c2 c3 c4 c5 c6 c7 t0 t1 t2 l0 l1 l2 hc4' hc5
          go_wp2_with fail
          refine hbest5.mono ?_
          rintro r w6 ⟨rfl, hb6⟩
          dsimp only
          have hs6 := hb6.size
          have hba := hb6.alloc hb6.size (.cells #[.int .u8 0, .int .i64 U, .int .i64 ud] 68)
          have hf7 := hf5.keeps hba
          have hc7 : Chg w (w6.alloc (.cells #[.int .u8 0, .int .i64 U, .int .i64 ud] 68)) (FF A gm Ap g) := hc35.trans (Chg.of_below hba) fun k hk => .inl hk
          have ar7 := ar5.keeps hba
          have at7 := at5.keeps hba
          have al7 := al5.keeps hba
          have au7 := new_tkT w6 0 U ud
          have hG6 : G + 1 < w6.heap.size := by have := al5.lt; omega
          have hszz : (w6.alloc (.cells #[.int .u8 0, .int .i64 U, .int .i64 ud] 68)).heap.size = w6.heap.size + 1 := by simp
          go_upto_region 9 with fail
          generalize hG7 : w6.heap.size = G7 at *
          generalize w6.alloc (.cells #[.int .u8 0, .int .i64 U, .int .i64 ud] 68) = w7 at *
          clear hba ar5 at5 al5 hf5 hb6 c55 hc35 hbest5
          obtain ⟨-, -, -, -, -, c5, -, -⟩ := ff_c hf7
          rw [hat5.out] at c5
          have z5 := hf7.cell.frozen' (i := 5) (by omega)
          obtain ⟨t0, t1, t2, -, -, -⟩ := tkT_cells at7
          obtain ⟨l0, l1, l2, -, -, -⟩ := tkT_cells al7
          obtain ⟨u0, u1, u2, -, -, -⟩ := tkT_cells au7
          obtain ⟨j0, j1, j2, z0, z1, z2⟩ := tkT_cells ar7
          have hf7' : FndC w7 b0 g e (enterF e st T) ((enterF e st T).at_ + 1) A n c gm nm5 Dm5 Ap np cp := by rw [hat5.out]; exact hf7
          obtain ⟨hf8, hc8⟩ := hf7'.moved (T := (T : Int) + 1) (by rw [hat5.out])
          have hc78 := hc7.trans hc8 fun k hk => .inl hk
          have hgw : g ≠ w.heap.size := by omega
          have hgw2 : w.heap.size ≠ g := by omega
          have ar8 : Ar _ w.heap.size 3 _ := ar7.far (p := ⟨g, 5, none⟩) hgw2 (.int .i64 ((T : Int) + 1))
          have at8 : Ar _ G 3 _ := at7.far (p := ⟨g, 5, none⟩) (by simp; omega) (.int .i64 ((T : Int) + 1))
          have al8 : Ar _ (G + 1) 3 _ := al7.far (p := ⟨g, 5, none⟩) (by simp; omega) (.int .i64 ((T : Int) + 1))
          have hm : (moved (enterF e st T)).at_ = T + 1 := by show (enterF e st T).at_ + 1 = _; rw [hat5.out]
          rw [hat5.out, ← hm] at hf8
          have HM := Lib.hid hm
          clear hm
          have hgG1 : g ≠ G + 1 ∧ g ≠ G := by omega
          by_cases hUL : L < U
          · have hULI : (L : Int) < (U : Int) := by omega
            have hRR : Hid (R = (⟨v, 0, 0⟩, moved (enterF e st T))) := by show _ = _; rw [hNX3.out, if_pos hUL, hlit.out]
            obtain ⟨t0, t1, t2, -, -, -⟩ := tkT_cells at8
            obtain ⟨l0, l1, l2, -, -, -⟩ := tkT_cells al8
            obtain ⟨j0, j1, j2, z0, z1, z2⟩ := tkT_cells ar8
            go_wp2_with fail
            refine bodyPost_ret (v := .agg #[.int .u8 v, .int .i64 0, .int .i64 0]) (by simp [results, Try.results41, go_sem, j0, j1, j2]) rfl ?_
            rw [hRR.out]
            exact next_fin h hf8 hc78 ar8
          · have hULI : ¬ (L : Int) < (U : Int) := by omega
            have hRR : Hid (R = (⟨0, L, d⟩, passF e (L - 1) (moved (enterF e st T)))) := by show _ = _; rw [hNX3.out, if_neg hUL]
            obtain ⟨L1, hL1⟩ : ∃ L1, L - 1 = L1 := ⟨_, rfl⟩
            have hL1I : (L : Int) - 1 = (L1 : Int) := by have h5 : L ≠ 0 := by (intro h6; rw [h6] at hL0I; simp at hL0I)
                                                         omega
            rw [hL1] at hRR
            have hroom2 : Hid ((moved (enterF e st T)).at_ + L1 ≤ (moved (enterF e st T)).D.length) := by show _ ≤ _; rw [HM.out, hDD.out]; have := HT.out; omega
            obtain ⟨-, -, r3, -⟩ := pass_ok (e := e) (n := L1) hf8.ok hroom2.out
            have hat9 := Lib.hid r3
            have hpass := pass_any L1 hf8 hroom2.out
            obtain ⟨t0, t1, t2, -, -, -⟩ := tkT_cells at8
            clear r3 hL1
            go_wp2_with fail
            refine hpass.mono ?_
            rintro r w9 ⟨rfl, ⟨nm9, Dm9, hf9⟩, hc9⟩
            have hc79 := hc78.trans hc9 fun k hk => .inl hk
            have ar9 := hc9.ar ar8 (hFF.out _ (Nat.le_refl _))
            have at9 := hc9.ar at8 (hFF.out _ (by omega))
            have hf9' : FndC w9 b0 g e (passF e L1 (moved (enterF e st T))) (passF e L1 (moved (enterF e st T))).at_ A n c gm nm9 Dm9 Ap np cp := by rw [hat9.out]; exact hf9
            obtain ⟨t0, t1, t2, -, -, -⟩ := tkT_cells at9
            obtain ⟨j0, j1, j2, z0, z1, z2⟩ := tkT_cells ar9
            go_wp2_with fail
            refine bodyPost_ret (v := .agg #[.int .u8 0, .int .i64 L, .int .i64 d]) (by simp [results, Try.results41, go_sem, j0, j1, j2]) rfl ?_
            rw [hRR.out]
            exact next_fin h hf9' hc79 ar9
        · have hroI : ¬ (T : Int) + 1 < (DL : Int) := by omega
          have hRR : Hid (R = (⟨0, L, d⟩, passF e L st)) := by show _ = _; rw [hNX2.out, if_neg (fun h => hroom h.2.2)]
          clear hNX2
          go_wp2_with fail
          go_quiet ((go_at_call 56; exact Calls.quiet_of (hend.out _)))
          go_wp2_with fail
          refine (pass_any L (hf3.drewN _) hLD.out).mono ?_
          rintro r w4 ⟨rfl, ⟨nm4, Dm4, hf4⟩, hc4⟩
          have hc4' := hc3.trans ((hc4' nq).trans hc4 fun k hk => .inl hk) fun k hk => .inl hk
          have ar4 := hc4.ar (ar3.drewN nq) (hFF.out _ (Nat.le_refl _))
          have at4 := hc4.ar (at3.drewN nq) (hFF.out _ (by omega))
          have hf4' : FndC w4 b0 g e (passF e L st) (passF e L st).at_ A n c gm nm4 Dm4 Ap np cp := by rw [hat3.out]; exact hf4
          obtain ⟨t0, t1, t2, -, -, -⟩ := tkT_cells at4
          obtain ⟨j0, j1, j2, z0, z1, z2⟩ := tkT_cells ar4
          go_wp2_with fail
          refine bodyPost_ret (v := .agg #[.int .u8 0, .int .i64 L, .int .i64 d]) (by simp [results, Try.results41, go_sem, j0, j1, j2]) rfl ?_
          rw [hRR.out]
          exact next_fin h hf4' hc4' ar4
      · have hniI : ¬ (L : Int) < (nc : Int) := by omega
        have hRR : Hid (R = (⟨0, L, d⟩, passF e L st)) := by show _ = _; rw [hNX2.out, if_neg (fun h => hnice h.2.1)]
        clear hNX2
        go_wp2_with fail
        go_quiet ((go_at_call 56; exact Calls.quiet_of (hend.out _)))
        go_wp2_with fail
        refine (pass_any L (hf3.drewN _) hLD.out).mono ?_
        rintro r w4 ⟨rfl, ⟨nm4, Dm4, hf4⟩, hc4⟩
        have hc4' := hc3.trans ((hc4' nq).trans hc4 fun k hk => .inl hk) fun k hk => .inl hk
        have ar4 := hc4.ar (ar3.drewN nq) (hFF.out _ (Nat.le_refl _))
        have at4 := hc4.ar (at3.drewN nq) (hFF.out _ (by omega))
        have hf4' : FndC w4 b0 g e (passF e L st) (passF e L st).at_ A n c gm nm4 Dm4 Ap np cp := by rw [hat3.out]; exact hf4
        obtain ⟨t0, t1, t2, -, -, -⟩ := tkT_cells at4
        obtain ⟨j0, j1, j2, z0, z1, z2⟩ := tkT_cells ar4
        go_wp2_with fail
        refine bodyPost_ret (v := .agg #[.int .u8 0, .int .i64 L, .int .i64 d]) (by simp [results, Try.results41, go_sem, j0, j1, j2]) rfl ?_
        rw [hRR.out]
        exact next_fin h hf4' hc4' ar4
end
end Go.Proofs.Ytlgkiookobedcaa
