/-
  The walk of coding's Pipe.step.
-/
import Derived.Test.YtlopmioamhendaaGreatCodX
import Derived.Deep.DeepCutAuto
import Derived.Deep.CutBlock
import Derived.BigFrame
namespace Go.Proofs.YtlopmioamhendaaGreat
open Go.RowKit
set_option linter.unusedVariables false
section
variable {w : World} {b0 gp gd ge gs gl n c ns cs : Nat} {A As : Option Addr} {l ls : List Int} {M : Nat} {ended : Bool}
def StepP (F0 : Nat → Prop) (w : World) (b0 gp gd ge gs gl : Nat) (l ls : List Int) (M K : Nat) (ended : Bool) (e : Ending) (w' : World) : Prop :=
  ∃ A' n' c' As' ns' cs', e = .returned (.bool (decide (0 < K) || (decide (K = 0) && ended))) ∧
    PipM w' b0 gp gd ge gs gl A' n' c' (l ++ ls.take K) (if K = 0 ∧ ended = true then 8 else 0) As' ns' cs' (ls.drop K) ((M : Int) - K) ended none 0 0 [] (decide (K = 0) && ended) ∧ BE b0 w w' F0 (PF A' As' none gp gs gl)
set_option maxRecDepth 100000 in
set_option maxHeartbeats 2000000 in
theorem pipStep_any (K : Nat) (h : PipM w b0 gp gd ge gs gl A n c l 0 As ns cs ls (M : Int) ended none 0 0 [] false) (hB : b0 ≤ w.heap.size) (hn : n + ns ≤ 100000000) (hM : ns ≤ M) (hM2 : (M : Int) ≤ 4611686018427387904) (hK : K = min 16384 ns) :
    Calls Tryz.prog 19 #[.pointer (some ⟨gp, 0, none⟩)] w (StepP (PF A As none gp gs gl) w b0 gp gd ge gs gl l ls M K ended) := by
  have c0 := h.pc.cell (i := 0) (by omega)
  unfold ppF at c0
  have hKb : K ≤ 16384 ∧ K ≤ ns := by omega
  obtain ⟨N, hN⟩ : ∃ N : Nat, N = 16384 := ⟨_, rfl⟩
  rw [← hN] at hK
  have HT := decTake_any w b0 gd gs ns cs M N K As ls ended h.dc h.s hB (by omega) hM hM2 (by omega) hK
  rw [show (N : Int) = 16384 by omega] at HT
  replace HT := Lib.hid HT
  have HN := Lib.hid hN
  obtain ⟨i0, hi, hz0, hz1, hz2⟩ := info_parts sbyte_info
  have Hi := Lib.hid hi
  have Hz0 := Lib.hid hz0
  have Hz1 := Lib.hid hz1
  have Hz2 := Lib.hid hz2
  have HK := Lib.hid hK
  clear hN hi hz0 hz1 hz2 hK
  go_enter Tryz.func19, Tryz.ntmps19
  go_wp2_with fail
  refine HT.out.mono ?_
  rintro e w2 ⟨Ao, no, co, As', ns', cs', rfl, hr, hS, hC, hoc, hfo, hfs, hfx⟩
  have hC2 : Chg w w2 (foot As gs) := hC.more fun k hk => .inl hk
  have hf2 : ∀ k, foot As' gs k → foot As gs k ∨ w.heap.size ≤ k := (fun k hk => by
    rcases hk with hk | hk
    · exact .inl (.inl hk)
    · exact .inr (hfs k hk))
  have h2 := h.setS hC2 hS hf2
  have hB2 : b0 ≤ w2.heap.size := Nat.le_trans hB hC.size
  obtain rfl : K = no := by rw [hr.1, List.length_take, ← h.s.own.1]; omega
  obtain ⟨E, hE⟩ : ∃ E, sTakeE N K ended = E := ⟨_, rfl⟩
  have HE := Lib.hid hE
  rw [hE]
  clear hE HT
  have c1 : w2.cell? ⟨gp, 1, none⟩ = some (.pointer (some ⟨ge, 0, none⟩)) := h2.pc.cell (i := 1) (by omega)
  go_wp2_with fail
  refine (encWrite_any w2 b0 ge gl 0 0 w2.heap.size K co none Ao [] (ls.take K) h2.ec h2.p hr hB2 (by omega)).mono ?_
  rintro e w3 ⟨Ap, np, cp, rfl, hP, hC3, hfp⟩
  have hf3 : ∀ k, foot Ap gl k → foot none gl k ∨ w2.heap.size ≤ k := (fun k hk => by
    rcases hk with hk | hk
    · exact .inl (.inl hk)
    · rcases hfp with h9 | h9
      · rw [h9] at hk; simp [blkOf] at hk
      · rw [h9] at hk; injection hk with hk; exact .inr (by omega))
  have h3 := h2.setP hC3 hP hf3
  rw [List.nil_append] at h3
  have hB3 : b0 ≤ w3.heap.size := Nat.le_trans hB2 hC3.size
  have hD : Hid (E = 8 ↔ (K = 0 ∧ ended = true)) := by
    show _ ↔ _
    have h1 := HE.out
    have h2 := HK.out
    have h3 := HN.out
    unfold sTakeE at h1
    rw [← h1]
    by_cases e1 : K = N
    · rw [if_pos e1]
      constructor
      · intro h; omega
      · intro h; omega
    · rw [if_neg e1]
      by_cases e2 : 0 < K
      · rw [if_pos e2]
        constructor
        · intro h; omega
        · intro h; omega
      · rw [if_neg e2]
        cases ended
        · simp
        · simp; omega
  have hE5 : Hid (E = 0 ∨ E = 5 ∨ E = 8) := by
    show _ ∨ _
    have h1 := HE.out
    unfold sTakeE at h1
    rw [← h1]
    split
    · exact .inl rfl
    · split
      · exact .inr (.inl rfl)
      · split
        · exact .inr (.inr rfl)
        · exact .inr (.inl rfl)
  have hb3 : BE b0 w w3 (PF A As none gp gs gl) (PF A As' Ap gp gs gl) := (BE.ofS h hB hC2 hf2).trans (BE.ofP h2 hB2 hC3 hf3)
  clear hf2 hf3 hP hC3 hfp hr hS hC hfo hfs hfx hC2 h2 hB2 c1 h c0
  go_upto_block 0 with fail
  go_cut [] (fun wx => PipM wx b0 gp gd ge gs gl A n c l (if K = 0 ∧ ended = true then 8 else 0) As' ns' cs' (ls.drop K) ((M : Int) - K) ended Ap np cp (ls.take K) (decide (K = 0) && ended) ∧ BE b0 w wx (PF A As none gp gs gl) (PF A As' Ap gp gs gl))
  case first =>
    by_cases h8 : K = 0 ∧ ended = true
    · have hE8 : E = 8 := hD.out.2 h8
      subst hE8
      have c1 : w3.cell? ⟨gp, 1, none⟩ = some (.pointer (some ⟨ge, 0, none⟩)) := h3.pc.cell (i := 1) (by omega)
      have H8 := Lib.hid h8
      have hdn : Hid ((decide (K = 0) && ended) = true) := by show _ = _; rw [h8.1, h8.2]; rfl
      clear h8
      go_wp2_with fail
      refine (encClose_any w3 b0 ge gl np cp Ap (ls.take K) h3.ec h3.p).mono ?_
      rintro e w4 ⟨rfl, hp4, hc4⟩
      have hc4' : Chg w3 w4 (foot Ap gl) := hc4.more fun k hk => .inl hk
      have h4 := h3.setP hc4' hp4 (fun k hk => .inl hk)
      have hb4 := hb3.trans (BE.ofP (Ap' := Ap) h3 hB3 hc4' (fun k hk => .inl hk))
      have c3 : w4.cell? ⟨gp, 3, none⟩ = some (.int .i64 0) := h4.pc.cell (i := 3) (by omega)
      have z3 := h4.pc.frozen' (i := 3) (by omega)
      go_wp2_with fail
      go_meet
      rw [if_pos H8.out, hdn.out]
      exact ⟨h4.setErr 8, hb4.trans (BE.ofQ (A' := A) h4 (Nat.le_trans hB3 hc4'.size) ((Chg.refl w4 _).setCell (p := ⟨gp, 3, none⟩) (.inl (.inl rfl)) _) (fun k hk => .inl hk))⟩
    · have hdn : Hid ((decide (K = 0) && ended) = false) := by show _ = _; cases hk : ended <;> simp; intro hk0; exact h8 ⟨hk0, hk⟩
      have hn8 : ¬ E = 8 := fun h => h8 (hD.out.1 h)
      have H8 := Lib.hid h8
      have h05 : E = 0 ∨ E = 5 := by have := hE5.out; omega
      clear h8
      rcases h05 with rfl | rfl
      · go_wp2_with fail
        go_meet
        rw [if_neg H8.out, hdn.out]
        exact ⟨h3, hb3⟩
      · go_wp2_with fail
        go_meet
        rw [if_neg H8.out, hdn.out]
        exact ⟨h3, hb3⟩
  case rest =>
  clear h3 hb3 hB3
  obtain ⟨h4, hb4⟩ := hcut
  obtain ⟨E2, he2⟩ : ∃ e2 : Int, (if K = 0 ∧ ended = true then 8 else 0) = e2 := ⟨_, rfl⟩
  rw [he2] at h4
  have HE2 := Lib.hid he2
  clear he2
  have hpl := h4.p.own.1
  have hBc : b0 ≤ wc.heap.size := by have := h4.lo.1; have := h4.pc.lt; omega
  have hnp : n + np ≤ 1000000000000 := by have := hpl; rw [List.length_take] at this; omega
  clear hpl
  have c1 : wc.cell? ⟨gp, 1, none⟩ = some (.pointer (some ⟨ge, 0, none⟩)) := h4.pc.cell (i := 1) (by omega)
  have c2 : wc.cell? ⟨gp, 2, none⟩ = some (.slice A n c) := h4.pc.cell (i := 2) (by omega)
  obtain ⟨dn, hdn⟩ : ∃ dn, (decide (K = 0) && ended) = dn := ⟨_, rfl⟩
  rw [hdn] at h4
  have HDN := Lib.hid hdn
  clear hdn
  go_upto_region 8 with fail
  go_region_law
    (first
      | (go_simp; go_at_call 14; (refine (encTake_any wc.drew b0 ge gl np cp Ap (ls.take K) dn h4.ec.drew (h4.p.keeps (Below.refl _ _).drew)).mono ?_)
         rintro e w5 ⟨rfl, hoT, hpT, hcT⟩
         have hcT' : Chg wc w5 (foot Ap gl) := ((Chg.refl wc _).drew).trans (hcT.more fun k hk => .inl hk) (fun k hk => .inl hk)
         have hf5 : ∀ k, foot none gl k → foot Ap gl k ∨ wc.heap.size ≤ k := (fun k hk => by
           rcases hk with hk | hk
           · exact .inl (.inl hk)
           · simp [blkOf] at hk)
         have h5 := h4.setP hcT' hpT hf5
         have d1 : w5.cell? ⟨gp, 1, none⟩ = some (.pointer (some ⟨ge, 0, none⟩)) := h5.pc.cell (i := 1) (by omega)
         have d2 : w5.cell? ⟨gp, 2, none⟩ = some (.slice A n c) := h5.pc.cell (i := 2) (by omega)
         have hB5 : b0 ≤ w5.heap.size := Nat.le_trans hBc hcT'.size)
      | (have _g := hoT; (refine step_app .u8 b0 5 i0 1 rfl (.tmp 46) (.tmp 51) _ rfl Tryz.underlying22 Hi.out Hz0.out Hz1.out Hz2.out rfl h5.own rfl hoT.rd hnp (by omega) hB5 ?_)
         intro A6 c6 w6 ho6 hg6 hat6
         have hcQ : Chg w5 w6 (foot A gp) := (Chg.refl w5 _).grown hg6 (fun k hk => .inl (.inr hk))
         have har := h5.pc.grown hg6 (fun e => h5.apart e.symm)
         have e2 : w6.cell? ⟨gp, 2, none⟩ = some (.slice A n c) := har.cell (i := 2) (by omega)
         have y2 := har.frozen' (i := 2) (by omega)))
  all_goals
    have hap6 : blkOf A6 ≠ some gp := by
      rcases hat6 with e | e
      · rw [e]; exact h5.apart
      · rw [e]; intro h9; injection h9 with h9; have := h5.pc.lt; omega
    have hf7 : ∀ k, foot A6 gp k → foot A gp k ∨ w5.heap.size ≤ k := (fun k hk => by
        rcases hk with hk | hk
        · exact .inl (.inl hk)
        · rcases hat6 with e | e
          · exact .inl (.inr (e ▸ hk))
          · rw [e] at hk; injection hk with hk; exact .inr (by omega))
    have h7 := h5.setQ (l' := l ++ ls.take K) (err' := E2) (hcQ.setCell (p := ⟨gp, 2, none⟩) (.inl (.inl rfl)) (.slice A6 (n + np) c6)) ((har.set_ (i := 2) (by omega) (.slice A6 (n + np) c6)).congr (f' := ppF gd ge A6 (n + np) c6 E2) fun i hi => by
      obtain rfl | rfl | rfl | rfl : i = 0 ∨ i = 1 ∨ i = 2 ∨ i = 3 := by omega
      all_goals rfl) (ho6.far (p := ⟨gp, 2, none⟩) hap6 _) hap6 hf7
    have hb7 : BE b0 w (w6.setCell ⟨gp, 2, none⟩ (.slice A6 (n + np) c6)) (PF A As none gp gs gl) (PF A6 As' none gp gs gl) := hb4.trans ((BE.ofP h4 hBc hcT' hf5).trans (BE.ofQ h5 hB5 (hcQ.setCell (p := ⟨gp, 2, none⟩) (.inl (.inl rfl)) (.slice A6 (n + np) c6)) hf7))
    clear hf5 hf7 hoT hpT hcT hcT' h5 d1 d2 hB5 ho6 hg6 hat6 hcQ har e2 y2 c1 c2 h4 hb4 hap6
    revert h7 hb7
    generalize (w6.setCell ⟨gp, 2, none⟩ (.slice A6 (n + np) c6)) = W
    intro h7 hb7
    have d3 : W.cell? ⟨gp, 3, none⟩ = some (.int .i64 E2) := h7.pc.cell (i := 3) (by omega)
    by_cases hK0 : 0 < K
    · have hK0I : (0 : Int) < K := by omega
      have HK0 := Lib.hid hK0
      clear hK0
      go_wp2_with fail
      go_ret
      exact ⟨A6, n + np, c6, As', ns', cs', by rw [decide_eq_true HK0.out]; rfl, by rw [HE2.out, HDN.out]; exact h7, hb7⟩
    · have hK0I : ¬ (0 : Int) < K := by omega
      have HKz : Hid (K = 0) := by show _ = _; omega
      clear hK0
      cases ended with
      | true =>
        obtain rfl : E2 = 8 := by rw [← HE2.out, if_pos ⟨HKz.out, rfl⟩]
        obtain rfl : dn = true := by rw [← HDN.out, HKz.out]; rfl
        go_wp2_with fail
        all_goals first | (exfalso; have := HKz.out; omega) | skip
        go_ret
        exact ⟨A6, n + np, c6, As', ns', cs', by rw [HKz.out]; rfl, by rw [if_pos ⟨HKz.out, rfl⟩, show (decide (K = 0) && true) = true by simp [HKz.out]]; exact h7, hb7⟩
      | false =>
        obtain rfl : E2 = 0 := by rw [← HE2.out, if_neg (fun h => by cases h.2)]
        obtain rfl : dn = false := by rw [← HDN.out]; simp
        go_wp2_with fail
        all_goals first | (exfalso; have := HKz.out; omega) | skip
        go_ret
        exact ⟨A6, n + np, c6, As', ns', cs', by rw [HKz.out]; rfl, by rw [if_neg (fun h => by cases h.2), show (decide (K = 0) && false) = false by simp]; exact h7, hb7⟩
end
end Go.Proofs.YtlopmioamhendaaGreat
