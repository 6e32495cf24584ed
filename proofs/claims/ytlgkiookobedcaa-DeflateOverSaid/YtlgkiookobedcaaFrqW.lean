/-
  The walks of block.extras and block.freqs.
-/
import Derived.Test.YtlgkiookobedcaaProg
import Derived.Test.YtlgkiookobedcaaPk10
import Derived.Test.YtlgkiookobedcaaPk7
import Derived.Test.YtlgkiookobedcaaPk4
import Derived.Test.YtlgkiookobedcaaPk3
import Derived.BigRegion
import Derived.Deep.CutBlock
import Derived.Deep.DeepCutAuto
namespace Go.Proofs.Ytlgkiookobedcaa
open Go.RowKit
set_option linter.unusedVariables false
theorem RdT.sound_at {w : World} {B n : Nat} {A : Option Addr} {l : List Tok} (h : RdT w B A n l) {k : Nat} (hk : k < n) : tokAt l k ∈ l := by
  have hkl : k < l.length := by rw [← h.1]; exact hk
  have e : tokAt l k = l[k] := by simp [tokAt, hkl]
  rw [e]; exact List.getElem_mem hkl
set_option maxRecDepth 100000 in
set_option maxHeartbeats 2000000 in
theorem extras_any (w : World) (At : Option Addr) (nt ct : Nat) (toks : List Tok) (hT : RdT w w.heap.size At nt toks) (hnt : nt ≤ 4000000000000) :
    Calls Try.prog 73 #[.slice At nt ct] w fun e w' => e = .returned (.int .i64 ((exs toks : Nat) : Int)) ∧ Below w.heap.size w w' := by
  have HT := Lib.hid (⟨hT, hT.1, hnt⟩ : _ ∧ _ ∧ _)
  have hntI : (0 : Int) ≤ (nt : Int) ∧ (nt : Int) ≤ 4000000000000 := by omega
  clear hT hnt
  go_enter Try.func73, Try.ntmps73
  go_wp2_with fail
  go_loopg [3, 14] nt (fun (gk : Nat) (v3 v14 : Value) wx => ∃ k s : Nat, v3 = .int .i64 s ∧ v14 = .int .i64 k ∧ k ≤ nt ∧ Hid (s = exs (toks.take k)) ∧ Hid (Below w.heap.size w wx) ∧ Hid (gk = nt - k))
  case atStart => exact ⟨0, 0, rfl, rfl, Nat.zero_le _, rfl, Below.refl _ _, rfl⟩
  case round =>
    obtain ⟨k, s, rfl, rfl, hk, hs, hb, hg⟩ := hrel
    by_cases hlt : k < nt
    · have hkI : (k : Int) < (nt : Int) ∧ (0 : Int) ≤ (k : Int) := by omega
      obtain ⟨ad, hA, hbl, hcs⟩ := (HT.out.1.below hb.out).2 (by omega)
      obtain ⟨a0, a1, a2⟩ := hcs k hlt
      rw [addr_next _ _ _ (by omega)] at a1 a2
      have hnx := exs_take (l := toks) (k := k) (by rw [← HT.out.2.1]; exact hlt)
      have hle := exs_le (toks.take k)
      have hle2 := exT_le (tokAt toks k)
      have hle3 : (toks.take k).length ≤ k := by rw [List.length_take]; exact Nat.min_le_left _ _
      have hexd : exT (tokAt toks k) = _ := rfl
      obtain ⟨⟨T0, N, D⟩, ht⟩ : ∃ t : Tok, tokAt toks k = t := ⟨_, rfl⟩
      rw [ht] at a0 a1 a2 hnx hexd hle2
      replace a0 : wr.cell? (ad.add (k * 3)) = some (.int .u8 T0) := a0
      replace a1 : wr.cell? { block := (ad.add (k * 3)).block, off := (ad.add (k * 3)).off + 1 } = some (.int .i64 N) := a1
      replace a2 : wr.cell? { block := (ad.add (k * 3)).block, off := (ad.add (k * 3)).off + 2 } = some (.int .i64 D) := a2
      have HCL : Hid (∀ v, CodeIs lB lE 3 258 257 28 N v → ∃ a b : Int, v = .tuple #[.int .i64 a, .int .i64 ((if 3 ≤ N ∧ N ≤ 258 then lE (lenJ N) else 0 : Nat) : Int), .int .i64 b]) := fun v h => code_len' h
      have HCD : Hid (∀ v, CodeIs dB dE 1 32768 0 29 D v → ∃ a b : Int, v = .tuple #[.int .i64 a, .int .i64 ((if 1 ≤ D ∧ D ≤ 32768 then dE (distJ D) else 0 : Nat) : Int), .int .i64 b]) := fun v h => code_dist' h
      obtain ⟨E1, hE1⟩ : ∃ E : Nat, (if 3 ≤ N ∧ N ≤ 258 then lE (lenJ N) else 0) = E := ⟨_, rfl⟩
      obtain ⟨E2, hE2⟩ : ∃ E : Nat, (if 1 ≤ D ∧ D ≤ 32768 then dE (distJ D) else 0) = E := ⟨_, rfl⟩
      have hex : exT ⟨T0, N, D⟩ = E1 + E2 := by rw [← hE1, ← hE2]; rfl
      rw [hE1] at HCL
      rw [hE2] at HCD
      have HX := Lib.hid (show exs (toks.take (k + 1)) = s + (E1 + E2) by rw [hnx, hs.out, hex])
      have hsb : (s : Int) ≤ 100000000000000 ∧ (0 : Int) ≤ (s : Int) ∧ (0 : Int) ≤ (E1 : Int) ∧ (0 : Int) ≤ (E2 : Int) ∧ (E1 : Int) + (E2 : Int) ≤ 18 ∧ (E1 : Int) ≤ 18 ∧ (E2 : Int) ≤ 18 := by have := hs.out; rw [hex] at hle2; omega
      have HC1 := Lib.hid (lenCode_any N (wr.alloc (.cells #[.int .u8 T0, .int .i64 N, .int .i64 D] 68)))
      have HC2 : Hid (∀ W, Calls Try.prog 64 #[.int .i64 D] W (CodePost dB dE 1 32768 0 29 D W)) := fun W => distCode_any D W
      have HLT := Lib.hid hlt
      have hbA := Lib.hid (hb.out.alloc hb.out.size (.cells #[.int .u8 T0, .int .i64 N, .int .i64 D] 68))
      have htf := (tf_new wr T0 N D 68).cell (i := 2) (by omega)
      have HTF := Lib.hid htf
      subst hA
      clear hbl hcs ht hlt hnx hexd hle hle2 hle3 hE1 hE2 hex htf
      go_wp2_with fail
      refine HC1.out.mono ?_
      rintro e w5 ⟨⟨v, rfl, hv⟩, rfl⟩
      obtain ⟨x1, y1, hv1⟩ := HCL.out v hv
      rw [hv1]
      clear hv hv1
      have c2 := HTF.out
      replace c2 : (wr.alloc (.cells #[.int .u8 T0, .int .i64 N, .int .i64 D] 68)).cell? { block := wr.heap.size, off := 2 } = some (.int .i64 D) := c2
      go_wp2_with fail
      refine (HC2.out _).mono ?_
      rintro e w6 ⟨⟨v, rfl, hv⟩, rfl⟩
      obtain ⟨x2, y2, hv2⟩ := HCD.out v hv
      rw [hv2]
      clear hv hv2
      go_wp2_with fail
      go_roundg (nt - (k + 1))
      case measure => have := hg.out; have := HLT.out; omega
      case rel => exact ⟨k + 1, s + (E1 + E2), by go_num, by go_num, HLT.out, HX.out.symm, hbA, rfl⟩
    · obtain rfl : k = nt := by omega
      have hkI : ¬ (k : Int) < (k : Int) := by omega
      have htk : toks.take k = toks := List.take_of_length_le (by rw [← HT.out.2.1]; exact Nat.le_refl _)
      have HS := hs
      rw [htk] at HS
      clear hlt htk hs
      go_wp2_with fail
      go_ret
      exact ⟨ret_int (by rw [HS.out]), hb.out⟩
theorem frq_info : (Try.prog.info? 3).map (fun i => (i.zero, i.size, i.bytes)) = some (some (.int .i64 0), 1, 8) := by kernel_rfl
structure FqM (w wx : World) (g1 g2 : Nat) (p : List Int × List Int) : Prop where
  lit : OwnI .i64 wx w.heap.size 3 (some ⟨g1, 0, none⟩) 286 286 p.1
  dist : OwnI .i64 wx w.heap.size 3 (some ⟨g2, 0, none⟩) 30 30 p.2
  ne : g1 ≠ g2
  bel : Below w.heap.size w wx
theorem OwnI.zeros (w : World) {b0 g : Nat} (hg : g = w.heap.size) (n : Nat) (e : TypeId) (hb : b0 ≤ w.heap.size) (hn : n ≤ 1000000) : OwnI .i64 (w.alloc (.cells (zrow n (.int .i64 0)) e)) b0 e (some ⟨g, 0, none⟩) n n (List.replicate n 0) := by
  have h := OwnI.lit (k := .i64) (b0 := b0) (w := w) hg (List.replicate n 0) e hb (by simp [maxLen]; omega)
  rw [List.length_replicate, List.map_replicate] at h
  have e : (List.replicate n (Value.int .i64 0)).toArray = zrow n (.int .i64 0) := by simp [zrow]
  rw [e] at h
  exact h
theorem OwnI.head {k : IntKind} {w : World} {b0 g n c : Nat} {e : TypeId} {l : List Int} (h : OwnI k w b0 e (some ⟨g, 0, none⟩) n c l) {i : Nat} (hi : i < n) : w.cell? ⟨g, i, none⟩ = some (.int k (ix l i)) ∧ w.frozen? ⟨g, i, none⟩ = false :=
  ⟨h.2.cell (by omega), h.2.frozen i⟩
section
variable {w wx : World} {g1 g2 : Nat} {p : List Int × List Int}
theorem FqM.new1 (w : World) : FqM w ((w.alloc (.cells (zrow 286 (.int .i64 0)) 3)).alloc (.cells (zrow 30 (.int .i64 0)) 3)) w.heap.size (w.heap.size + 1) (List.replicate 286 0, List.replicate 30 0) :=
  ⟨(OwnI.zeros w rfl 286 _ (Nat.le_refl _) (by omega)).alloc _, OwnI.zeros _ (by simp) 30 _ (by simp) (by omega), by omega, ((Below.refl _ _).alloc (Nat.le_refl _) _).alloc (by simp) _⟩
theorem FqM.new2 (w : World) : FqM w ((w.alloc (.cells (zrow 30 (.int .i64 0)) 3)).alloc (.cells (zrow 286 (.int .i64 0)) 3)) (w.heap.size + 1) w.heap.size (List.replicate 286 0, List.replicate 30 0) :=
  ⟨OwnI.zeros _ (by simp) 286 _ (by simp) (by omega), (OwnI.zeros w rfl 30 _ (Nat.le_refl _) (by omega)).alloc _, by omega, ((Below.refl _ _).alloc (Nat.le_refl _) _).alloc (by simp) _⟩
theorem FqM.drew (h : FqM w wx g1 g2 p) : FqM w wx.drew g1 g2 p := ⟨h.1, h.2, h.3, ⟨h.4.os, h.4.tape, h.4.output, h.4.size, h.4.block⟩⟩
theorem FqM.alloc (h : FqM w wx g1 g2 p) (o : Obj) : FqM w (wx.alloc o) g1 g2 p := ⟨h.1.alloc o, h.2.alloc o, h.3, h.4.alloc h.4.size o⟩
theorem FqM.lo (h : FqM w wx g1 g2 p) : w.heap.size ≤ g1 ∧ w.heap.size ≤ g2 := ⟨(h.1.2.lt rfl).1, (h.2.2.lt rfl).1⟩
theorem FqM.set1 (h : FqM w wx g1 g2 p) {i : Nat} (hi : i < 286) (v : Int) : FqM w (wx.setCell ⟨g1, i, none⟩ (.int .i64 v)) g1 g2 (p.1.set i v, p.2) :=
  ⟨h.1.put hi v, h.2.far (fun e => h.3 (by injection e with e; exact e.symm)) _, h.3, h.4.setCell (show w.heap.size ≤ g1 from h.lo.1) _⟩
theorem FqM.set2 (h : FqM w wx g1 g2 p) {i : Nat} (hi : i < 30) (v : Int) : FqM w (wx.setCell ⟨g2, i, none⟩ (.int .i64 v)) g1 g2 (p.1, p.2.set i v) :=
  ⟨h.1.far (fun e => h.3 (by injection e)) _, h.2.put hi v, h.3, h.4.setCell (show w.heap.size ≤ g2 from h.lo.2) _⟩
end
def FqPost (w : World) (toks : List Tok) (e : Ending) (w' : World) : Prop := ∃ g1 g2, e = .returned (.tuple #[.slice (some ⟨g1, 0, none⟩) 286 286, .slice (some ⟨g2, 0, none⟩) 30 30]) ∧ FqM w w' g1 g2 (fqT toks)
set_option maxRecDepth 100000 in
set_option maxHeartbeats 4000000 in
theorem freqs_any (w : World) (At : Option Addr) (nt ct : Nat) (toks : List Tok) (hT : RdT w w.heap.size At nt toks) (hnt : nt ≤ 4000000000000) (hsnd : ∀ t ∈ toks, soundT t ∧ 0 ≤ t.lit ∧ t.lit < 256) :
    Calls Try.prog 65 #[.slice At nt ct] w (FqPost w toks) := by
  obtain ⟨i0, hi, hz0, hz1, hz2⟩ := info_parts frq_info
  have hmk1 : ∀ W, (Instr.makeSlice 32 (.int .i64 286) (.int .i64 286)).run Try.prog W = .ok (.slice (some ⟨W.heap.size, 0, none⟩) 286 286) (W.alloc (.cells (zrow 286 (.int .i64 0)) 3)) := fun W => run_make_zrow (P := Try.prog) 32 3 i0 (.int .i64 0) Try.underlying32 hi hz0 hz1 rfl .i64 .i64 286 (by rw [hz2]; omega) (by omega) W
  have hmk2 : ∀ W, (Instr.makeSlice 32 (.int .i64 30) (.int .i64 30)).run Try.prog W = .ok (.slice (some ⟨W.heap.size, 0, none⟩) 30 30) (W.alloc (.cells (zrow 30 (.int .i64 0)) 3)) := fun W => run_make_zrow (P := Try.prog) 32 3 i0 (.int .i64 0) Try.underlying32 hi hz0 hz1 rfl .i64 .i64 30 (by rw [hz2]; omega) (by omega) W
  have HT := Lib.hid (⟨hT, hT.1, hnt, hsnd⟩ : _ ∧ _ ∧ _ ∧ _)
  have hntI : (0 : Int) ≤ (nt : Int) ∧ (nt : Int) ≤ 4000000000000 := by omega
  clear hT hnt hsnd hi hz0 hz1 hz2
  go_enter Try.func65, Try.ntmps65
  go_upto_region 1 with fail
  go_cut [2, 3] (fun v2 v3 wx => ∃ g1 g2, v2 = .slice (some ⟨g1, 0, none⟩) 286 286 ∧ v3 = .slice (some ⟨g2, 0, none⟩) 30 30 ∧ Hid (FqM w wx g1 g2 (List.replicate 286 0, List.replicate 30 0)))
  case first =>
    go_wp2_with fail
    go_region
    · go_wp2_with fail
      go_meet
      exact ⟨_, _, rfl, rfl, (FqM.new1 w).drew⟩
    · go_wp2_with fail
      go_meet
      exact ⟨_, _, rfl, rfl, (FqM.new2 w).drew⟩
  case rest =>
    clear hmk1 hmk2
    obtain ⟨g1, g2, rfl, rfl, hM⟩ := hcut
    obtain ⟨c256, z256⟩ := hM.out.lit.head (i := 256) (by omega)
    have HM2 : Hid (∀ n : Nat, n = 256 → FqM w (wc.setCell ⟨g1, n, none⟩ (.int .i64 1)) g1 g2 (fqT [])) := fun n hn => by subst hn; exact hM.out.set1 (by omega) 1
    go_wp2_with fail
    have HS := Lib.hid (HM2.out 256 rfl)
    clear c256 z256 hM HM2
    go_loopg [15] nt (fun (gk : Nat) (v15 : Value) wx => ∃ k : Nat, v15 = .int .i64 k ∧ k ≤ nt ∧ Hid (FqM w wx g1 g2 (fqT (toks.take k))) ∧ Hid (gk = nt - k))
    case atStart => exact ⟨0, rfl, Nat.zero_le _, HS.out, rfl⟩
    case round =>
      clear HS
      obtain ⟨k, rfl, hk, hs, hg⟩ := hrel
      by_cases hlt : k < nt
      · have hkI : (k : Int) < (nt : Int) ∧ (0 : Int) ≤ (k : Int) := by omega
        obtain ⟨ad, hA, hbl, hcs⟩ := (HT.out.1.below hs.out.bel).2 (by omega)
        obtain ⟨a0, a1, a2⟩ := hcs k hlt
        rw [addr_next _ _ _ (by omega)] at a1 a2
        have hnx := fqT_take (l := toks) (k := k) (by rw [← HT.out.2.1]; exact hlt)
        have hsd := HT.out.2.2.2 _ (HT.out.1.sound_at hlt)
        have hbd := fq_bd (toks.take k)
        have hln := fq_len (toks.take k)
        have hle3 : (toks.take k).length ≤ k := by rw [List.length_take]; exact Nat.min_le_left _ _
        obtain ⟨P, hP⟩ : ∃ P, fqT (toks.take k) = P := ⟨_, rfl⟩
        rw [hP] at hs hnx hbd hln
        obtain ⟨⟨T0, N, D⟩, ht⟩ : ∃ t : Tok, tokAt toks k = t := ⟨_, rfl⟩
        rw [ht] at a0 a1 a2 hnx hsd
        obtain ⟨sl, rfl⟩ : ∃ sl : Nat, T0 = (sl : Int) := ⟨T0.toNat, by have := hsd.2.1; have h : 0 ≤ T0 := this; omega⟩
        replace a0 : wr.cell? (ad.add (k * 3)) = some (.int .u8 (sl : Int)) := a0
        replace a1 : wr.cell? { block := (ad.add (k * 3)).block, off := (ad.add (k * 3)).off + 1 } = some (.int .i64 N) := a1
        replace a2 : wr.cell? { block := (ad.add (k * 3)).block, off := (ad.add (k * 3)).off + 2 } = some (.int .i64 D) := a2
        have hslb : (0 : Int) ≤ (sl : Int) ∧ (sl : Int) < 256 := hsd.2
        have HLT := Lib.hid hlt
        have hbN := Lib.hid (show ∀ i, (0 ≤ ix P.1 i ∧ ix P.1 i ≤ 4000000000001) ∧ 0 ≤ ix P.2 i ∧ ix P.2 i ≤ 4000000000001 from fun i => by have := hbd i; have := HT.out.2.2.1; omega)
        have hsA := Lib.hid (hs.out.alloc (.cells #[.int .u8 (sl : Int), .int .i64 N, .int .i64 D] 68))
        have hlo := Lib.hid (hs.out.lo)
        have hglt : Hid (g1 < wr.heap.size ∧ g2 < wr.heap.size) := ⟨(hs.out.lit.2.lt rfl).2, (hs.out.dist.2.lt rfl).2⟩
        have HNX := Lib.hid hnx
        have HSD := Lib.hid hsd
        have htf := Lib.hid (tf_new wr (sl : Int) N D 68)
        subst hA
        clear hbl hcs ht hlt hnx hsd hbd hln hle3 hP
        by_cases hN0 : N = 0
        · subst hN0
          obtain ⟨cl, zl⟩ := hsA.out.lit.head (i := sl) (by omega)
          have hbv := (hbN.out sl).1
          obtain ⟨V, hV⟩ : ∃ V, ix P.1 sl = V := ⟨_, rfl⟩
          rw [hV] at cl hbv
          have hfin := Lib.hid (show FqM w ((wr.alloc (.cells #[.int .u8 (sl : Int), .int .i64 0, .int .i64 D] 68)).setCell ⟨g1, sl, none⟩ (.int .i64 (V + 1))) g1 g2 (fqT (toks.take (k + 1))) from by
            rw [HNX.out]
            unfold fqS bump
            rw [if_pos rfl]
            show FqM _ _ _ _ (P.1.set sl (ix P.1 sl + 1), P.2)
            rw [hV]
            exact hsA.out.set1 (by omega) _)
          clear hV
          go_wp2_with fail
          go_roundg (nt - (k + 1))
          case measure => have := hg.out; have := HLT.out; omega
          case rel => exact ⟨k + 1, by go_num, HLT.out, hfin, rfl⟩
        · obtain ⟨⟨n3, n258⟩, ⟨d1, d2⟩, j28, q29⟩ := tok_bd HSD.out.1 hN0
          replace n3 : 3 ≤ N := n3
          replace n258 : N ≤ 258 := n258
          replace d1 : 1 ≤ D := d1
          replace d2 : D ≤ 32768 := d2
          have hJ29 : lenJ N ≤ 28 := j28
          have hQ30 : distJ D ≤ 29 := q29
          have hcl := fun v (h : CodeIs lB lE 3 258 257 28 N v) => code_len h ⟨n3, n258⟩
          have hcdv := fun v (h : CodeIs dB dE 1 32768 0 29 D v) => code_dist h ⟨d1, d2⟩
          have hfq : fqS P ⟨(sl : Int), N, D⟩ = (bump P.1 (257 + lenJ N), bump P.2 (distJ D)) := by unfold fqS; rw [if_neg hN0]
          rw [hfq] at HNX
          obtain ⟨j, hj⟩ : ∃ j, lenJ N = j := ⟨_, rfl⟩
          obtain ⟨q, hq⟩ : ∃ q, distJ D = q := ⟨_, rfl⟩
          rw [hj] at hcl hJ29 HNX
          rw [hq] at hcdv hQ30 HNX
          obtain ⟨E1, he1⟩ : ∃ E : Int, ((lE j : Nat) : Int) = E := ⟨_, rfl⟩
          obtain ⟨E2, he2⟩ : ∃ E : Int, ((dE q : Nat) : Int) = E := ⟨_, rfl⟩
          obtain ⟨V1, hv1⟩ : ∃ V, N - ((lB j : Nat) : Int) = V := ⟨_, rfl⟩
          obtain ⟨V2, hv2⟩ : ∃ V, D - ((dB q : Nat) : Int) = V := ⟨_, rfl⟩
          obtain ⟨S1, hS1⟩ : ∃ S, 257 + j = S := ⟨_, rfl⟩
          rw [hS1] at HNX
          have hS1I : (257 : Int) + (j : Int) = (S1 : Int) := by omega
          have HCL : Hid (∀ v, CodeIs lB lE 3 258 257 28 N v → v = .tuple #[.int .i64 (S1 : Int), .int .i64 E1, .int .i64 V1]) := fun v h => by have := hcl v h; rw [this, hv1, he1, hS1I]
          have HCD : Hid (∀ v, CodeIs dB dE 1 32768 0 29 D v → v = .tuple #[.int .i64 (q : Int), .int .i64 E2, .int .i64 V2]) := fun v h => by have := hcdv v h; rw [this, hv2, he2]
          have HC1 := Lib.hid (lenCode_any N (wr.alloc (.cells #[.int .u8 (sl : Int), .int .i64 N, .int .i64 D] 68)))
          have HC2 : Hid (∀ W, Calls Try.prog 64 #[.int .i64 D] W (CodePost dB dE 1 32768 0 29 D W)) := fun W => distCode_any D W
          have hN0' : (N == 0) = false := by simpa using hN0
          have hSq : (S1 : Int) < 286 ∧ (0 : Int) ≤ (S1 : Int) ∧ (q : Int) < 30 ∧ (0 : Int) ≤ (q : Int) ∧ S1 < 286 ∧ q < 30 := by omega
          have hbS := (hbN.out S1).1
          have hbQ := (hbN.out q).2
          have hset1 := hsA.out.set1 (i := S1) (by omega) (ix P.1 S1 + 1)
          have hset2 := hset1.set2 (i := q) (by omega) (ix P.2 q + 1)
          obtain ⟨cl, zl⟩ := hsA.out.lit.head (i := S1) (by omega)
          obtain ⟨cq, zq⟩ := hset1.dist.head (i := q) (by omega)
          have ct := (htf.out.far (p := ⟨g1, S1, none⟩) (by have := hglt.out.1; show wr.heap.size ≠ g1; omega) (.int .i64 (ix P.1 S1 + 1))).cell (i := 2) (by omega)
          have e1 : (P.1.set S1 (ix P.1 S1 + 1), P.2).2 = P.2 := rfl
          rw [e1] at cq
          have hpe : fqT (toks.take (k + 1)) = ((P.1.set S1 (ix P.1 S1 + 1)), (P.2.set q (ix P.2 q + 1))) := by rw [HNX.out]; rfl
          have hfin := hset2
          change FqM w _ g1 g2 ((P.1.set S1 (ix P.1 S1 + 1)), (P.2.set q (ix P.2 q + 1))) at hfin
          rw [← hpe] at hfin
          obtain ⟨X1, hX1⟩ : ∃ X, ix P.1 S1 = X := ⟨_, rfl⟩
          obtain ⟨X2, hX2⟩ : ∃ X, ix P.2 q = X := ⟨_, rfl⟩
          rw [hX1] at hfin hbS cl cq zq ct
          rw [hX2] at hfin hbQ cq
          have HFIN := Lib.hid hfin
          replace ct : ((wr.alloc (.cells #[.int .u8 (sl : Int), .int .i64 N, .int .i64 D] 68)).setCell ⟨g1, S1, none⟩ (.int .i64 (X1 + 1))).cell? ⟨wr.heap.size, 2, none⟩ = some (.int .i64 D) := ct
          have HCT := Lib.hid (⟨ct, cq, zq⟩ : _ ∧ _ ∧ _)
          clear n3 n258 d1 d2 j28 q29 hJ29 hQ30 hcl hcdv hfq hj hq he1 he2 hv1 hv2 hS1 hS1I hset1 hset2 hX1 hX2 hfin ct cq zq e1 hpe
          go_wp2_with fail
          refine HC1.out.mono ?_
          rintro e w5 ⟨⟨v, rfl, hv⟩, rfl⟩
          rw [HCL.out v hv]
          clear hv
          obtain ⟨ct, cq, zq⟩ := HCT.out
          go_wp2_with fail
          refine (HC2.out _).mono ?_
          rintro e w6 ⟨⟨v, rfl, hv⟩, rfl⟩
          rw [HCD.out v hv]
          clear hv
          go_wp2_with fail
          go_roundg (nt - (k + 1))
          case measure => have := hg.out; have := HLT.out; omega
          case rel => exact ⟨k + 1, by go_num, HLT.out, HFIN, rfl⟩
      · obtain rfl : k = nt := by omega
        have hkI : ¬ (k : Int) < (k : Int) := by omega
        have htk : toks.take k = toks := List.take_of_length_le (by rw [← HT.out.2.1]; exact Nat.le_refl _)
        have HS := hs
        rw [htk] at HS
        clear hlt htk hs
        go_wp2_with fail
        go_ret2
        exact ⟨g1, g2, rfl, HS.out⟩
end Go.Proofs.Ytlgkiookobedcaa
