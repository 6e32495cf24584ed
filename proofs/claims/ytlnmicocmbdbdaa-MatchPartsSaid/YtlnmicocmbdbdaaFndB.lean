/-
  The walks of the finder's best and enter.
-/
import Derived.Test.YtlnmicocmbdbdaaFnd
import Derived.Handy
namespace Go.Proofs.Ytlnmicocmbdbdaa
open Go.RowKit Go.Maps
set_option linter.unusedVariables false

theorem law32 : Keyed Try.prog 61 := int_keyed Try.underlying61
theorem zeroInt (w : World) : (zeroValue 3).run Try.prog w = .ok (.int .i64 0) w := by kernel_rfl
theorem key32 {x : Int} (h : 0 ≤ x ∧ x < 4294967296) : keyOf Try.prog 61 (.int .u32 x) = some (.int .u32 x) := keyOf_int_mk Try.underlying61 (by simp [Lit.wf, IntKind.min, IntKind.max, IntKind.signed, IntKind.bits]; omega)
/-- a callee that only draws, met where draws have added up -/
theorem quiet_at {P : Program} {f : FuncId} {args : Array Value} {w : World} {q n : Nat} {v : Value} (h : Calls P f args (w.drewN (q + n)) fun e w' => e = .returned v ∧ ∃ m, w' = (w.drewN (q + n)).drewN m) :
    Calls P f args (w.drewN (q + n)) fun e w'' => e = .returned v ∧ ∃ m, w'' = w.drewN (q + m) :=
  h.mono fun _ _ ⟨he, m, hm⟩ => ⟨he, n + m, by rw [hm, World.drewN_drewN, Nat.add_assoc]⟩
theorem FndC.look {w : World} {b0 g b n c gm nm np cp : Nat} {e : Eff} {st : FSt} {A Ap : Option Addr} {Dm : DataW Unit} (h : FndC w b0 g e st b A n c gm nm Dm Ap np cp) {H : Int} (hH : 0 ≤ H ∧ H < 4294967296) (m : Nat) :
    (Instr.lookup 52 (.map (some gm)) (.int .u32 H) true).run Try.prog (w.drewN m) = .ok (.tuple #[.int .i64 ((st.head H).getD 0), .bool ((st.head H).isSome)]) (w.drewN m) := by
  have hm := (h.drewN m).map
  obtain ⟨v, ps, h1, h2⟩ := hm.look_ok law32 (t := 52) Try.underlying52 (zeroInt _) (plainElem_int (a := 0) Try.underlying3 (by decide)) (key32 hH)
  rw [(h.rep.2 H).2] at h2
  obtain ⟨c, rfl, hc, _⟩ := plainElem_int_inv Try.underlying3 h2
  have : (st.head H).getD 0 = c := by
    have h3 := congrArg Prod.fst hc
    injection h3 with h3
    injection h3 with h3 h4
  rw [h1, this, (h.rep.2 H).1]
def BestPost (w : World) (t : Nat × Nat) (r : Ending) (w' : World) : Prop := r = .returned (.agg #[.int .u8 0, .int .i64 t.1, .int .i64 t.2]) ∧ Below w.heap.size w w'
/-- a token's cells -/
def tk (t : Nat × Nat) : Nat → Value
  | 0 => .int .u8 0
  | 1 => .int .i64 t.1
  | _ => .int .i64 t.2
theorem tk_set {w : World} {g : Nat} {t : Nat × Nat} (h : Ar w g 3 (tk t)) (a b : Nat) : Ar ((w.setCell ⟨g, 1, none⟩ (.int .i64 a)).setCell ⟨g, 2, none⟩ (.int .i64 b)) g 3 (tk (a, b)) :=
  ((h.set_ (i := 1) (by omega) _).set_ (i := 2) (by omega) _).congr fun i hi => by
    obtain rfl | rfl | rfl : i = 0 ∨ i = 1 ∨ i = 2 := by omega
    all_goals rfl
theorem tk_all {w : World} {g : Nat} {t : Nat × Nat} (h : Ar w g 3 (tk t)) (a b : Nat) : Ar (((w.setCell ⟨g, 0, none⟩ (.int .u8 0)).setCell ⟨g, 1, none⟩ (.int .i64 a)).setCell ⟨g, 2, none⟩ (.int .i64 b)) g 3 (tk (a, b)) :=
  (((h.set_ (i := 0) (by omega) _).set_ (i := 1) (by omega) _).set_ (i := 2) (by omega) _).congr fun i hi => by
    obtain rfl | rfl | rfl : i = 0 ∨ i = 1 ∨ i = 2 := by omega
    all_goals rfl
theorem new_tk (w : World) : Ar (w.alloc (.cells #[.int .u8 0, .int .i64 0, .int .i64 0] 32)) w.heap.size 3 (tk (0, 0)) :=
  Ar.new w #[.int .u8 0, .int .i64 0, .int .i64 0] 32 (show (#[.int .u8 0, .int .i64 0, .int .i64 0] : Array Value).size = 3 from rfl) fun i hi => by
    obtain rfl | rfl | rfl : i = 0 ∨ i = 1 ∨ i = 2 := by omega
    all_goals rfl
theorem tk_cells {w : World} {g : Nat} {t : Nat × Nat} (h : Ar w g 3 (tk t)) : w.cell? ⟨g, 0, none⟩ = some (.int .u8 0) ∧ w.cell? ⟨g, 1, none⟩ = some (.int .i64 t.1) ∧ w.cell? ⟨g, 2, none⟩ = some (.int .i64 t.2) ∧
    w.frozen? ⟨g, 0, none⟩ = false ∧ w.frozen? ⟨g, 1, none⟩ = false ∧ w.frozen? ⟨g, 2, none⟩ = false :=
  ⟨h.cell (i := 0) (by omega), h.cell (i := 1) (by omega), h.cell (i := 2) (by omega), h.frozen' (i := 0) (by omega), h.frozen' (i := 1) (by omega), h.frozen' (i := 2) (by omega)⟩
def BestRel (w : World) (st : FSt) (e : Eff) (p gr gt : Nat) (R : Nat × Nat) (k m _n : Value) (wr : World) : Prop :=
  ∃ (tr : Nat) (K : Int) (t : Nat × Nat), m = .int .i64 tr ∧ tr ≤ 256 ∧ k = .int .i64 K ∧ -1 ≤ K ∧ K < (p : Int) ∧ Hid (bestF st.D st.P st.base p e.nice tr K t = R) ∧ t.1 ≤ 258 ∧ t.2 ≤ p ∧ Ar wr gt 3 (tk t) ∧ Ar wr gr 3 (tk (0, 0)) ∧ Below w.heap.size w wr
section
variable {w w' : World} {b0 g n c gm nm np cp : Nat} {e : Eff} {st : FSt} {A Ap : Option Addr} {Dm : DataW Unit}
set_option maxRecDepth 100000 in
set_option maxHeartbeats 4000000 in
theorem best_any (p : Nat) (h : FndC w b0 g e st p A n c gm nm Dm Ap np cp) (hp : st.base ≤ p) :
    Calls Try.prog 21 #[.pointer (some ⟨g, 0, none⟩), .int .i64 p] w (BestPost w (bestOf e st p)) := by
  obtain ⟨c0, c1, -, c3, c4, -, c6, c7⟩ := ff_c h
  have hb := h.big
  have hbl := h.ok.bl
  have heb := h.eb
  have hend := fun W (hf : FndC W b0 g e st p A n c gm nm Dm Ap np cp) => end_any hf
  obtain ⟨L, hL⟩ : ∃ L, st.D.length = L := ⟨_, rfl⟩
  obtain ⟨ch, hch⟩ : ∃ ch, e.chain = ch := ⟨_, rfl⟩
  rw [hch] at c0 heb
  rw [hL] at hb hbl
  have hI : (p : Int) ≤ L ∧ (L : Int) ≤ 100000000000 ∧ (0 : Int) ≤ p ∧ (0 : Int) ≤ ch ∧ (ch : Int) ≤ 256 := by omega
  have HL := Lib.hid hL
  have HCH := Lib.hid hch
  have hgs := h.cell.lt
  have hb2 := ((Below.refl _ w).alloc (Nat.le_refl _) (.cells #[.int .u8 0, .int .i64 0, .int .i64 0] 32)).alloc (by simp) (.cells #[.int .u8 0, .int .i64 0, .int .i64 0] 32)
  have ha0 : Ar ((w.alloc (.cells #[.int .u8 0, .int .i64 0, .int .i64 0] 32)).alloc (.cells #[.int .u8 0, .int .i64 0, .int .i64 0] 32)) w.heap.size 3 (tk (0, 0)) := (new_tk w).alloc _
  have ha1 : Ar ((w.alloc (.cells #[.int .u8 0, .int .i64 0, .int .i64 0] 32)).alloc (.cells #[.int .u8 0, .int .i64 0, .int .i64 0] 32)) (w.heap.size + 1) 3 (tk (0, 0)) := by
    have := new_tk (w.alloc (.cells #[.int .u8 0, .int .i64 0, .int .i64 0] 32))
    rwa [show (w.alloc (.cells #[.int .u8 0, .int .i64 0, .int .i64 0] 32)).heap.size = w.heap.size + 1 by simp] at this
  by_cases hc0 : ch = 0
  · have hB : Hid (bestOf e st p = (0, 0)) := bestOf_zero (.inl (by rw [hch]; exact hc0))
    subst hc0
    clear hL hch
    go_enter Try.func21, Try.ntmps21
    go_wp2_with fail
    go_returns
    unfold BestPost
    rw [hB.out]
    exact ⟨rfl, ((Below.refl _ w).alloc (Nat.le_refl _) _).alloc (by simp) _⟩
  · have hc0I : ((ch : Int) == 0) = false := by simpa using hc0
    have h1 := h.keeps hb2
    by_cases hsh : L < p + 3
    · have hB : Hid (bestOf e st p = (0, 0)) := bestOf_zero (.inr (by rw [hL]; exact hsh))
      have hshI : (L : Int) < (p : Int) + 3 := by omega
      rw [hL] at hend
      clear hL hch hc0
      go_enter Try.func21, Try.ntmps21
      go_wp2_with fail
      refine (hend _ h1).mono ?_
      rintro r w1 ⟨rfl, q1, rfl⟩
      go_wp2_with fail
      go_returns
      unfold BestPost
      rw [hB.out]
      exact ⟨rfl, (((below_drewN hb2 q1).setCell (p := ⟨w.heap.size, 0, none⟩) (Nat.le_refl _) _).setCell (p := ⟨w.heap.size, 1, none⟩) (Nat.le_refl _) _).setCell (p := ⟨w.heap.size, 2, none⟩) (Nat.le_refl _) _⟩
    · have hshI : ¬ (L : Int) < (p : Int) + 3 := by omega
      obtain ⟨H, hH⟩ : ∃ H, hashAt st.D p = H := ⟨_, rfl⟩
      have hHb : 0 ≤ H ∧ H < 4294967296 := by rw [← hH]; have := hs3_bd (ix st.D p) (ix st.D (p + 1)) (ix st.D (p + 2)); unfold hashAt; omega
      have hlk := h1.look hHb
      have hhash : ∀ m W, FndC W b0 g e st p A n c gm nm Dm Ap np cp → Calls Try.prog 26 #[.pointer (some ⟨g, 0, none⟩), .int .i64 p] (W.drewN m) fun r w' => r = .returned (.int .u32 H) ∧ ∃ q, w' = (W.drewN m).drewN q := fun m W hf => by
        have := hash_any (hf.drewN m) p hp (by rw [hL]; omega)
        rwa [hH] at this
      have hs : Hid (∀ k, st.head H = some k → bestOf e st p = bestF st.D st.P st.base p e.nice ch k (0, 0) ∧ 0 ≤ k ∧ k < (p : Int)) := fun k hk => by
        have h5 := h.ok.hd H k hk
        have h6 := bestOf_some (e := e) (st := st) (p := p) (k := k) (by rw [hch]; exact hc0) (by rw [hL]; omega) (by rw [hH]; exact hk)
        rw [hch] at h6
        exact ⟨h6, h5⟩
      have hnn : Hid (st.head H = none → bestOf e st p = (0, 0)) := fun hk => bestOf_none (by rw [hH]; exact hk)
      rw [hL] at hend
      have HH := Lib.hid hhash
      have HHK := Lib.hid hH
      clear hL hch hc0 hH hhash
      obtain ⟨hd, hhd⟩ : ∃ hd, st.head H = hd := ⟨_, rfl⟩
      rw [hhd] at hlk
      have HD := Lib.hid hhd
      clear hhd
      cases hd with
      | none =>
        have hB : Hid (bestOf e st p = (0, 0)) := hnn.out HD.out
        simp only [Option.getD_none, Option.isSome_none] at hlk
        go_enter Try.func21, Try.ntmps21
        go_wp2_with fail
        refine (hend _ h1).mono ?_
        rintro r w1 ⟨rfl, q1, rfl⟩
        go_wp2_with fail
        go_quiet ((go_at_call 26; exact quiet_at (HH.out _ _ h1)))
        go_wp2_with fail
        go_loopw [6, 8, 9] (fun k _ _ wr => k = .int .i64 0 ∧ Ar wr (w.heap.size + 1) 3 (tk (0, 0)) ∧ Ar wr w.heap.size 3 (tk (0, 0)) ∧ Below w.heap.size w wr) (fun _ _ _ _ => 0)
        case atStart => exact ⟨rfl, ha1.drewN _, ha0.drewN _, below_drewN hb2 _⟩
        case round =>
          obtain ⟨rfl, h1, h0, hbr⟩ := hrel
          obtain ⟨k0, k1, k2, -, -, -⟩ := tk_cells h1
          obtain ⟨j0, j1, j2, z0, z1, z2⟩ := tk_cells h0
          have hlt := h1.lt
          go_wp2_with fail
          refine bodyPost_ret (v := .agg #[.int .u8 0, .int .i64 0, .int .i64 0]) (by simp [results, Try.results21, go_sem, j0, j1, j2]) rfl ?_
          unfold BestPost
          rw [hB.out]
          exact ⟨rfl, ((hbr.setCell (p := ⟨w.heap.size, 0, none⟩) (Nat.le_refl _) _).setCell (p := ⟨w.heap.size, 1, none⟩) (Nat.le_refl _) _).setCell (p := ⟨w.heap.size, 2, none⟩) (Nat.le_refl _) _⟩
      | some k =>
        obtain ⟨hB, hk0, hkp⟩ := hs.out k HD.out
        simp only [Option.getD_some, Option.isSome_some] at hlk
        obtain ⟨R, hR⟩ : ∃ R, bestOf e st p = R := ⟨_, rfl⟩
        rw [hR] at hB ⊢
        have HB : Hid (bestF st.D st.P st.base p e.nice ch k (0, 0) = R) := hB.symm
        have hP : Hid (∀ q, -1 ≤ ix st.P q ∧ ix st.P q ≤ q) := h.ok.prev
        obtain ⟨B, hBs⟩ : ∃ B, st.base = B := ⟨_, rfl⟩
        obtain ⟨N0, hN0⟩ : ∃ N0, e.nice = N0 := ⟨_, rfl⟩
        have hBI : (0 : Int) ≤ B ∧ (B : Int) ≤ (p : Int) := by omega
        have HBS := Lib.hid hBs
        have HN0 := Lib.hid hN0
        have hn := h.n_eq
        rw [HL.out] at hn
        have Hn := Lib.hid hn
        have hgds : Hid (∀ gd, Ap = some ⟨gd, 0, none⟩ → gd < w.heap.size) := fun gd e => (h.ownp.2.lt (g := gd) (by rw [e]; rfl)).2
        clear hB hR hs hnn hBs hN0 hn
        go_enter Try.func21, Try.ntmps21
        go_wp2_with fail
        refine (hend _ h1).mono ?_
        rintro r w1 ⟨rfl, q1, rfl⟩
        go_wp2_with fail
        go_quiet ((go_at_call 26; exact quiet_at (HH.out _ _ h1)))
        go_wp2_with fail
        clear hlk
        go_loopw [6, 8, 9] (BestRel w st e p w.heap.size (w.heap.size + 1) R) (fun _ m _ _ => (intOf m).toNat)
        case atStart => exact ⟨ch, k, (0, 0), rfl, by omega, rfl, by omega, hkp, HB, by simp, by simp, ha1.drewN _, ha0.drewN _, below_drewN hb2 _⟩
        case round =>
          obtain ⟨tr, K, t, rfl, htr, rfl, hK1, hKp, hF, ht1, ht2, ar1, ar0, hbr⟩ := hrel
          obtain ⟨T, Dd⟩ := t
          dsimp only at ht1 ht2
          obtain ⟨k0, k1, k2, y0, y1, y2⟩ := tk_cells ar1
          obtain ⟨j0, j1, j2, z0, z1, z2⟩ := tk_cells ar0
          have hlt := ar1.lt
          have hf := h.keeps hbr
          have hg1 : g ≠ w.heap.size + 1 := by omega
          have hg2 : w.heap.size + 1 ≠ g := by omega
          obtain ⟨c0, c1, -, c3, c4, -, c6, c7⟩ := ff_c hf
          rw [HBS.out] at c4
          rw [HN0.out] at c1
          have hTI : (0 : Int) ≤ T ∧ (T : Int) ≤ 258 ∧ (0 : Int) ≤ Dd := by omega
          dsimp only at k1 k2
          by_cases htr0 : tr = 0
          · have hR : Hid (R = (T, Dd)) := by show _ = _; rw [← hF.out, htr0]; rfl
            have htrI : ((tr : Int)) = 0 := by omega
            subst htr0
            clear hF
            go_wp2_with fail
            refine bodyPost_ret (v := .agg #[.int .u8 0, .int .i64 T, .int .i64 Dd]) (by simp [results, Try.results21, go_sem, j0, j1, j2]) rfl ?_
            unfold BestPost
            rw [hR.out]
            exact ⟨rfl, ((hbr.setCell (p := ⟨w.heap.size, 0, none⟩) (Nat.le_refl _) _).setCell (p := ⟨w.heap.size, 1, none⟩) (Nat.le_refl _) _).setCell (p := ⟨w.heap.size, 2, none⟩) (Nat.le_refl _) _⟩
          · obtain ⟨m, rfl⟩ : ∃ m, tr = m + 1 := ⟨tr - 1, by omega⟩
            have hm : ((m + 1 : Nat) : Int) = (m : Int) + 1 := by omega
            have hmI : (0 : Int) ≤ m ∧ (m : Int) ≤ 255 ∧ (0 : Int) < (m : Int) + 1 := by omega
            have hunf : bestF st.D st.P st.base p e.nice (m + 1) K (T, Dd) = if (B : Int) ≤ K ∧ (p : Int) - 32768 ≤ K then
                (if 3 ≤ sameN st.D K.toNat p ∧ T < sameN st.D K.toNat p then
                  (if N0 ≤ sameN st.D K.toNat p then (sameN st.D K.toNat p, p - K.toNat) else bestF st.D st.P st.base p e.nice m (ix st.P K.toNat) (sameN st.D K.toNat p, p - K.toNat))
                else bestF st.D st.P st.base p e.nice m (ix st.P K.toNat) (T, Dd)) else (T, Dd) := by rw [← HBS.out, ← HN0.out]; rfl
            have hF2 := hF.out
            rw [hunf] at hF2
            clear hunf hF
            rw [hm]
            by_cases hc1 : (B : Int) ≤ K
            · by_cases hc2 : (p : Int) - 32768 ≤ K
              · rw [if_pos ⟨hc1, hc2⟩] at hF2
                obtain ⟨K', rfl⟩ := Int.eq_ofNat_of_zero_le (show 0 ≤ K by omega)
                rw [Int.toNat_natCast] at hF2
                have hsame := sameN_any hf K' p (by rw [HBS.out]; omega) (by omega) (by rw [HL.out]; omega)
                have hNb := (sameN_bd st.D K' p).1
                obtain ⟨N, hN⟩ : ∃ N, sameN st.D K' p = N := ⟨_, rfl⟩
                rw [hN] at hsame hNb hF2
                obtain ⟨i, hi⟩ : ∃ i, K' = B + i := ⟨K' - B, by omega⟩
                have hin : i < n := by have := Hn.out; have := HBS.out; omega
                have hwI : IntKind.i64.wrap ((K' : Int) - (B : Int)) = (i : Int) := by rw [IntWalk.i64_in _ (by omega)]; omega
                have hKB : (K' : Int) - (B : Int) = (i : Int) := by omega
                have hinI : (0 : Int) ≤ i ∧ (i : Int) < (n : Int) := by omega
                obtain ⟨V, hV⟩ : ∃ V, ix st.P K' = V := ⟨_, rfl⟩
                have hVb := hP.out K'
                rw [hV] at hF2 hVb
                have hVb2 : -1 ≤ V ∧ V < (p : Int) := by omega
                have hcell : ∀ W, Below w.heap.size w W → ∃ gd, Ap = some ⟨gd, 0, none⟩ ∧ W.cell? ⟨gd, i, none⟩ = some (.int .i64 V) := fun W hW => by
                  have := (h.keeps hW).place hin
                  rwa [HBS.out, ← hi, hV] at this
                have hpk : (p : Int) - (K' : Int) = ((p - K' : Nat) : Int) := by omega
                have HNP := h.np_eq
                have hNI : (0 : Int) ≤ N ∧ (N : Int) ≤ 258 := by omega
                have hnpI : (i : Int) < (np : Int) := by omega
                have hKne : ((K' : Int) == -1) = false := by simp
                have HFF := Lib.hid hF2
                have HPK := Lib.hid hpk
                clear hF2 hi hN hV hVb hin HNP htr0 hpk
                by_cases hN3 : 3 ≤ N
                · by_cases hNT : T < N
                  · have hNI2 : (3 : Int) ≤ N ∧ (T : Int) < N := by omega
                    obtain ⟨d, hd⟩ : ∃ d, p - K' = d := ⟨_, rfl⟩
                    have hF3 := HFF.out
                    rw [if_pos ⟨hN3, hNT⟩, hd] at hF3
                    have hpd : (p : Int) - (K' : Int) = (d : Int) := by have := HPK.out; omega
                    have hdI : d ≤ p := by omega
                    by_cases hnice : N0 ≤ N
                    · have hR : Hid (R = (N, d)) := by show _ = _; rw [← hF3, if_pos hnice]
                      have hniI : (N0 : Int) ≤ (N : Int) := by omega
                      clear hF3 hd HFF hcell
                      go_wp2_with fail
                      refine hsame.mono ?_
                      rintro r w5 ⟨rfl, q5, rfl⟩
                      have hbs := ((below_drewN hbr q5).setCell (p := ⟨w.heap.size + 1, 1, none⟩) (by simp) (.int .i64 N)).setCell (p := ⟨w.heap.size + 1, 2, none⟩) (by simp) (.int .i64 d)
                      go_wp2_with fail
                      refine bodyPost_ret (v := .agg #[.int .u8 0, .int .i64 N, .int .i64 d]) (by simp [results, Try.results21, go_sem, j0, j1, j2]) rfl ?_
                      unfold BestPost
                      rw [hR.out]
                      exact ⟨rfl, ((hbs.setCell (p := ⟨w.heap.size, 0, none⟩) (Nat.le_refl _) _).setCell (p := ⟨w.heap.size, 1, none⟩) (Nat.le_refl _) _).setCell (p := ⟨w.heap.size, 2, none⟩) (Nat.le_refl _) _⟩
                    · have hR : Hid (bestF st.D st.P st.base p e.nice m V (N, d) = R) := by show _ = _; rw [← hF3, if_neg hnice]
                      have hniI : ¬ (N0 : Int) ≤ (N : Int) := by omega
                      clear hF3 hd HFF
                      obtain ⟨gd, rfl, cc⟩ := hcell _ hbr
                      have hgd0 := hgds.out gd rfl
                      have hgdw : gd ≠ w.heap.size + 1 := by omega
                      have hgdw2 : w.heap.size + 1 ≠ gd := fun e => hgdw e.symm
                      clear hcell
                      go_wp2_with fail
                      refine hsame.mono ?_
                      rintro r w5 ⟨rfl, q5, rfl⟩
                      have hbs := ((below_drewN hbr q5).setCell (p := ⟨w.heap.size + 1, 1, none⟩) (by simp) (.int .i64 N)).setCell (p := ⟨w.heap.size + 1, 2, none⟩) (by simp) (.int .i64 d)
                      have as1 := tk_set (ar1.drewN q5) N d
                      have as0 : Ar _ w.heap.size 3 (tk (0, 0)) := ((ar0.drewN q5).far (p := ⟨w.heap.size + 1, 1, none⟩) (by simp) (.int .i64 N)).far (p := ⟨w.heap.size + 1, 2, none⟩) (by simp) (.int .i64 d)
                      go_wp2_with fail
                      go_quiet (fail)
                      go_wp2
                      go_roundw
                      case rel => exact ⟨m, V, (N, d), by go_num, by omega, rfl, hVb2.1, hVb2.2, hR, by omega, hdI, as1.drewN _, as0.drewN _, below_drewN hbs _⟩
                      case measure => simp [intOf]
                  · have hR : Hid (bestF st.D st.P st.base p e.nice m V (T, Dd) = R) := by show _ = _; rw [← HFF.out, if_neg (fun h => hNT h.2)]
                    have hNI2 : (3 : Int) ≤ N ∧ ¬ (T : Int) < N := by omega
                    clear HFF
                    obtain ⟨gd, rfl, cc⟩ := hcell _ hbr
                    clear hcell
                    go_wp2_with fail
                    refine hsame.mono ?_
                    rintro r w5 ⟨rfl, q5, rfl⟩
                    go_wp2_with fail
                    go_quiet (fail)
                    go_wp2
                    go_roundw
                    case rel => exact ⟨m, V, (T, Dd), by go_num, by omega, rfl, hVb2.1, hVb2.2, hR, ht1, ht2, ar1.drewN _, ar0.drewN _, below_drewN hbr _⟩
                    case measure => simp [intOf]
                · have hR : Hid (bestF st.D st.P st.base p e.nice m V (T, Dd) = R) := by show _ = _; rw [← HFF.out, if_neg (fun h => hN3 h.1)]
                  have hNI2 : (N : Int) < 3 := by omega
                  clear HFF
                  obtain ⟨gd, rfl, cc⟩ := hcell _ hbr
                  clear hcell
                  go_wp2_with fail
                  refine hsame.mono ?_
                  rintro r w5 ⟨rfl, q5, rfl⟩
                  go_wp2_with fail
                  go_quiet (fail)
                  go_wp2
                  go_roundw
                  case rel => exact ⟨m, V, (T, Dd), by go_num, by omega, rfl, hVb2.1, hVb2.2, hR, ht1, ht2, ar1.drewN _, ar0.drewN _, below_drewN hbr _⟩
                  case measure => simp [intOf]
              · have hR : Hid (R = (T, Dd)) := by show _ = _; rw [← hF2, if_neg (fun h => hc2 h.2)]
                have hc3 : K < (p : Int) - 32768 := by omega
                clear hF2 hc2
                go_wp2_with fail
                refine bodyPost_ret (v := .agg #[.int .u8 0, .int .i64 T, .int .i64 Dd]) (by simp [results, Try.results21, go_sem, j0, j1, j2]) rfl ?_
                unfold BestPost
                rw [hR.out]
                exact ⟨rfl, ((hbr.setCell (p := ⟨w.heap.size, 0, none⟩) (Nat.le_refl _) _).setCell (p := ⟨w.heap.size, 1, none⟩) (Nat.le_refl _) _).setCell (p := ⟨w.heap.size, 2, none⟩) (Nat.le_refl _) _⟩
            · have hR : Hid (R = (T, Dd)) := by show _ = _; rw [← hF2, if_neg (fun h => hc1 h.1)]
              have hc3 : K < (B : Int) := by omega
              clear hF2 hc1
              go_wp2_with fail
              refine bodyPost_ret (v := .agg #[.int .u8 0, .int .i64 T, .int .i64 Dd]) (by simp [results, Try.results21, go_sem, j0, j1, j2]) rfl ?_
              unfold BestPost
              rw [hR.out]
              exact ⟨rfl, ((hbr.setCell (p := ⟨w.heap.size, 0, none⟩) (Nat.le_refl _) _).setCell (p := ⟨w.heap.size, 1, none⟩) (Nat.le_refl _) _).setCell (p := ⟨w.heap.size, 2, none⟩) (Nat.le_refl _) _⟩
end
end Go.Proofs.Ytlnmicocmbdbdaa
