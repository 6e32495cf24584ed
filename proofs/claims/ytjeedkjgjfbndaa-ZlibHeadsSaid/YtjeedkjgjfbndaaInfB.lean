/-
  The walks of the decoder's block, size, stored, sizes.
-/
import Derived.Test.YtjeedkjgjfbndaaInfA
import Derived.Test.YtjeedkjgjfbndaaRdrC
import Derived.Test.YtjeedkjgjfbndaaFixL
import Derived.Test.YtjeedkjgjfbndaaTab
import Derived.Deep.CutBlock
namespace Go.Proofs.Ytjeedkjgjfbndaa
open Go.RowKit
set_option linter.unusedVariables false
/-- a decoder in memory is at a state of the machine -/
structure Live (M : DM) (S : DS) (s : IS) : Prop where
  x : rb M.B M.a = s.x
  st : S.st = s.st
  last : S.last = s.last
  left : S.left = s.left
  c0 : S.c0 = s.c0
  c1 : S.c1 = s.c1
  c2 : S.c2 = s.c2
  lens : M.lens = s.lens
  hd : s.st = 5 → M.hd = some s.hd
  lt : s.st = 6 ∨ s.st = 7 → M.lt = some s.lt
  ds : s.st = 6 ∨ s.st = 7 → M.ds = some s.ds
  len : s.st = 7 → S.len = s.len
  tail : Tail s.all M.l
  rem : S.most = s.rem
  err : S.err = 0
def StepPost (w0 : World) (c0 : Nat → Nat) (b0 g : Nat) (M : DM) (s : IS) (e : Ending) (w' : World) : Prop :=
  ∃ M' S' s' v b, e = .returned (.int .i64 v) ∧ InfS w0 c0 w' b0 g M' S' ∧ S'.err = 0 ∧ M'.out = M.out ++ b ∧ s'.all = s.all ++ b ∧ b.length ≤ 70000 ∧
    ((v = 0 ∧ IS.Steps s s' ∧ s'.mu < s.mu ∧ Live M' S' s') ∨ (v = 5 ∧ IS.Steps s s' ∧ s'.step.2 = 5 ∧ Live M' S' s') ∨ (v ≠ 0 ∧ v ≠ 5 ∧ s.fin = (s', v) ∧ (v = 8 → Live M' S' s')))
section
variable {w w' w0 : World} {b0 g : Nat} {c0 : Nat → Nat} {M M' : DM} {S S' : DS} {s t : IS} {b : List Int} {v : Int}
theorem StepPost.go (hs : s.step = (t, 0)) (hb : t.all = s.all ++ b) (hbl : b.length ≤ 70000) (h : InfS w0 c0 w' b0 g M' S') (hL : Live M' S' t) (ho : M'.out = M.out ++ b) : StepPost w0 c0 b0 g M s (.returned (.int .i64 0)) w' := by
  have h2 : s.step.2 = 0 := by rw [hs]
  have e1 : s.step.1 = t := by rw [hs]
  subst e1
  exact ⟨M', S', s.step.1, 0, b, rfl, h, hL.err, ho, hb, hbl, .inl ⟨rfl, IS.Steps.one h2, IS.mu_step h2, hL⟩⟩
theorem StepPost.go0 (hs : s.step = (t, 0)) (hb : t.all = s.all) (h : InfS w0 c0 w' b0 g M' S') (hL : Live M' S' t) (ho : M'.out = M.out) : StepPost w0 c0 b0 g M s (.returned (.int .i64 0)) w' :=
  StepPost.go (b := []) hs (by rw [hb, List.append_nil]) (by simp) h hL (by rw [ho, List.append_nil])
theorem StepPost.lack (hs : s.step.2 = 5) (h : InfS w0 c0 w' b0 g M' S') (hL : Live M' S' s) (ho : M'.out = M.out) : StepPost w0 c0 b0 g M s (.returned (.int .i64 5)) w' :=
  ⟨M', S', s, 5, [], rfl, h, hL.err, by rw [ho, List.append_nil], by rw [List.append_nil], by simp, .inr (.inl ⟨rfl, .refl s, hs, hL⟩)⟩
theorem StepPost.bad (hs : s.step = (t, v)) (h0 : v ≠ 0) (h5 : v ≠ 5) (h8 : v ≠ 8) (hb : t.all = s.all ++ b) (hbl : b.length ≤ 70000) (h : InfS w0 c0 w' b0 g M' S') (he : S'.err = 0) (ho : M'.out = M.out ++ b) : StepPost w0 c0 b0 g M s (.returned (.int .i64 v)) w' :=
  ⟨M', S', t, v, b, rfl, h, he, ho, hb, hbl, .inr (.inr ⟨h0, h5, by rw [IS.fin_stop (by rw [hs]; exact h0), hs], fun e => absurd e h8⟩)⟩
theorem StepPost.bad0 (hs : s.step = (t, v)) (h0 : v ≠ 0) (h5 : v ≠ 5) (h8 : v ≠ 8) (hb : t.all = s.all) (h : InfS w0 c0 w' b0 g M' S') (he : S'.err = 0) (ho : M'.out = M.out) : StepPost w0 c0 b0 g M s (.returned (.int .i64 v)) w' :=
  StepPost.bad (b := []) hs h0 h5 h8 (by rw [hb, List.append_nil]) (by simp) h he (by rw [ho, List.append_nil])
theorem and16 (V : Nat) (h : V < 4294967296) : bits .and .u32 (V : Int) 65535 = ((V % 65536 : Nat) : Int) := by
  have := u32_and_nat V 65535 h (by omega)
  rwa [Nat.and_two_pow_sub_one_eq_mod V 16] at this
theorem not_u32 (V : Nat) (h : V < 4294967296) : bits .xor .u32 IntKind.u32.max (V : Int) = ((4294967295 - V : Nat) : Int) := by
  show IntKind.u32.wrap ((BitVec.ofInt 32 IntKind.u32.max ^^^ BitVec.ofInt 32 (V : Int)).toNat : Int) = _
  have e : BitVec.ofInt 32 IntKind.u32.max = BitVec.allOnes 32 := by decide
  rw [e, BitVec.allOnes_xor, BitVec.toNat_not, ofInt_u32 V h, IntKind.wrap_u32']
  omega
set_option maxRecDepth 100000 in
set_option maxHeartbeats 4000000 in
theorem dsize_any (h : InfS w0 c0 w b0 g M S) (hL : Live M S s) (hO : s.Ok) (hst : s.st = 1) :
    Calls Try.prog 26 #[.pointer (some ⟨g, 0, none⟩)] w (StepPost w0 c0 b0 g M s) := by
  obtain ⟨k0, -⟩ := h.cells
  have hbg := h.big
  have hb := hL.x
  have hstep : Hid (s.step = s.size) := by show _ = _; unfold IS.step; rw [if_neg (by omega), if_pos hst]
  unfold IS.size at hstep
  by_cases hx : s.x.length < 32
  · have hlack : Hid (s.step.2 = 5) := by show _ = _; rw [hstep.out, if_pos hx]
    have hl : ((rb M.B M.a).length : Int) < 32 := by rw [hb]; omega
    clear hb hx hstep
    go_enter Try.func26, Try.ntmps26
    go_wp2_with fail
    refine (get_not _ _ _ _ _ _ _ _ h.rdr (by omega) 32 (.inr (.inr hl))).mono ?_
    rintro e w1 ⟨rfl, q, rfl⟩
    go_wp2
    go_ret
    exact StepPost.lack hlack.out (h.drewN q) hL rfl
  · have hnum := num_int hO.bit 32
    have hlt := num_lt hO.bit 32
    have hl : 32 ≤ (rb M.B M.a).length := by rw [hb]; omega
    rw [if_neg hx] at hstep
    obtain ⟨V, hV⟩ : ∃ V, num s.x 32 = V := ⟨_, rfl⟩
    rw [hV] at hnum hlt hstep
    have hVb : (0 : Int) ≤ V ∧ (V : Int) < 4294967296 := by omega
    have hA := and16 V (by omega)
    have hX := not_u32 V (by omega)
    obtain ⟨L, hLL⟩ : ∃ L, V % 65536 = L := ⟨_, rfl⟩
    obtain ⟨X, hXX⟩ : ∃ X, 4294967295 - V = X := ⟨_, rfl⟩
    obtain ⟨H, hHH⟩ : ∃ H, 65535 - V / 65536 = H := ⟨_, rfl⟩
    rw [hLL] at hA
    rw [hXX] at hX
    have hX' : bits .xor .u32 (if IntKind.u32.signed = true then -1 else IntKind.u32.max) (V : Int) = (X : Int) := hX
    have hX2 : (X : Int) / 65536 = (H : Int) := by omega
    have hLb : (0 : Int) ≤ (L : Int) ∧ (L : Int) < 65536 ∧ (0 : Int) ≤ (X : Int) ∧ (0 : Int) ≤ (H : Int) := by omega
    have hq : Hid (V % 65536 + V / 65536 = 65535 ↔ L = H) := by show _ ↔ _; omega
    have HN := Lib.hid hnum
    have HB := Lib.hid hb
    have HL := Lib.hid hLL
    have hrb : Hid (∀ W : World, rb M.B (M.a + 32) = s.x.drop 32) := fun _ => by rw [← rb_drop, hb]
    clear hV hlt hx hnum hb hLL hXX hHH
    by_cases hLH : L = H
    · have hs := Lib.hid (hstep.out.trans (if_pos (hq.out.2 hLH)))
      clear hstep hq
      subst hLH
      go_enter Try.func26, Try.ntmps26
      go_wp2_with fail
      refine (get_ok _ _ _ _ _ _ _ _ h.rdr (by omega) 32 (by omega) hl).mono ?_
      rintro e w1 ⟨rfl, hr, hc⟩
      rw [HB.out, ← HN.out]
      have h1 := h.moved hc hr
      obtain ⟨-, -, -, -, -, j5, -, j7, -⟩ := h1.cells
      have z7 := h1.cell.frozen' (i := 7) (by omega)
      have z5 := h1.cell.frozen' (i := 5) (by omega)
      have h2 := (h1.put (i := 7) (by omega) (.int .i64 L) { S with left := L } (all16 rfl rfl rfl rfl rfl rfl rfl rfl rfl rfl rfl rfl rfl rfl rfl rfl)).put (i := 5) (by omega) (.int .i64 2) { S with left := L, st := 2 } (all16 rfl rfl rfl rfl rfl rfl rfl rfl rfl rfl rfl rfl rfl rfl rfl rfl)
      go_wp2_with fail
      go_ret
      exact StepPost.go0 hs.out rfl h2 ⟨hrb.out w, rfl, hL.last, HL.out.symm, hL.c0, hL.c1, hL.c2, hL.lens, fun e => by simp at e, fun e => by simp at e, fun e => by simp at e, fun e => by simp at e, hL.tail, hL.rem, hL.err⟩ rfl
    · have hne : ((L : Int) == (H : Int)) = false := by simp; omega
      have hs := Lib.hid (hstep.out.trans (if_neg (fun e => hLH (hq.out.1 e))))
      clear hstep hq hLH
      go_enter Try.func26, Try.ntmps26
      go_wp2_with fail
      refine (get_ok _ _ _ _ _ _ _ _ h.rdr (by omega) 32 (by omega) hl).mono ?_
      rintro e w1 ⟨rfl, hr, hc⟩
      rw [HB.out, ← HN.out]
      have h1 := h.moved hc hr
      go_wp2_with fail
      go_ret
      exact StepPost.bad0 hs.out (by decide) (by decide) (by decide) rfl h1 hL.err rfl
theorem low1 : ∀ V : Nat, V < 8 → bits .and .i64 (V : Int) 1 = (if decide (V % 2 = 1) then 1 else 0) := by decide +kernel
set_option maxRecDepth 100000 in
set_option maxHeartbeats 8000000 in
theorem dblock_any (h : InfS w0 c0 w b0 g M S) (hL : Live M S s) (hO : s.Ok) (hst : s.st = 0) :
    Calls Try.prog 25 #[.pointer (some ⟨g, 0, none⟩)] w (StepPost w0 c0 b0 g M s) := by
  have hb := hL.x
  have hstep : Hid (s.step = s.block) := by show _ = _; unfold IS.step; rw [if_pos hst]
  unfold IS.block at hstep
  by_cases hx : s.x.length < 3
  · have hlack : Hid (s.step.2 = 5) := by show _ = _; rw [hstep.out, if_pos hx]
    have hl : ((rb M.B M.a).length : Int) < 3 := by rw [hb]; omega
    clear hb hx hstep
    go_enter Try.func25, Try.ntmps25
    go_wp2_with fail
    refine (dbit_not h 3 (.inr (.inr hl))).mono ?_
    rintro e w1 ⟨rfl, h1⟩
    go_wp2
    go_ret
    exact StepPost.lack hlack.out h1 hL rfl
  · have hlt := num_lt hO.bit 3
    have hl : 3 ≤ (rb M.B M.a).length := by rw [hb]; omega
    rw [if_neg hx] at hstep
    have hbit : Hid (∀ w2 : World, InfS w0 c0 w2 b0 g M S → Calls Try.prog 34 #[.pointer (some ⟨g, 0, none⟩), .int .i64 3] w2 fun e w' => e = .returned (.tuple #[.int .i64 ((num s.x 3 : Nat) : Int), .bool true]) ∧ InfS w0 c0 w' b0 g { M with a := M.a + 3 } S) := fun w2 h2 => by
      have := dbit_ok h2 3 (by omega) hl
      rwa [hb] at this
    have hrb : Hid (rb M.B (M.a + 3) = s.x.drop 3) := by show _ = _; rw [← rb_drop, hb]
    have hle : M.a + 3 ≤ 8 * M.B.length := by have := hl; rw [rb_length] at this; omega
    have hA := low1 _ hlt
    obtain ⟨v, hv⟩ : ∃ v : Int, ((num s.x 3 : Nat) : Int) = v := ⟨_, rfl⟩
    rw [hv] at hA hbit
    obtain ⟨bl, hbl⟩ : ∃ bl, decide (num s.x 3 % 2 = 1) = bl := ⟨_, rfl⟩
    rw [hbl] at hA hstep
    have hcs : (v / 2 = 0 ∧ num s.x 3 / 2 = 0) ∨ (v / 2 = 1 ∧ num s.x 3 / 2 = 1) ∨ (v / 2 = 2 ∧ num s.x 3 / 2 = 2) ∨ (v / 2 = 3 ∧ num s.x 3 / 2 = 3) := by omega
    have hv0 : 0 ≤ v ∧ v < 8 := by omega
    clear hb hx hl hv hbl hlt
    rcases hcs with ⟨hk, hK⟩ | ⟨hk, hK⟩ | ⟨hk, hK⟩ | ⟨hk, hK⟩
    · have hs := Lib.hid (hstep.out.trans (if_pos hK))
      clear hstep hK
      cases bl
      all_goals
        simp only [Bool.false_eq_true, if_true, if_false] at hA
        go_enter Try.func25, Try.ntmps25
        go_wp2_with fail
        refine (hbit.out _ h).mono ?_
        rintro e w1 ⟨rfl, h1⟩
        obtain ⟨j0, -, -, -, -, j5, j6, -⟩ := h1.cells
        have z5 := h1.cell.frozen' (i := 5) (by omega)
        have z6 := h1.cell.frozen' (i := 6) (by omega)
        go_wp2_with fail
        first
          | have h2 := h1.put (i := 6) (by omega) (.bool false) { S with last := false } (all16 rfl rfl rfl rfl rfl rfl rfl rfl rfl rfl rfl rfl rfl rfl rfl rfl); refine (rdrAlign_any _ _ _ _ _ _ _ _ h2.rdr (Nat.le_trans h2.big (by omega))).mono ?_
          | have h2 := h1.put (i := 6) (by omega) (.bool true) { S with last := true } (all16 rfl rfl rfl rfl rfl rfl rfl rfl rfl rfl rfl rfl rfl rfl rfl rfl); refine (rdrAlign_any _ _ _ _ _ _ _ _ h2.rdr (Nat.le_trans h2.big (by omega))).mono ?_
        rintro e w2 ⟨rfl, hr, hc⟩
        have h3 := h2.moved hc hr
        obtain ⟨-, -, -, -, -, i5, -⟩ := h3.cells
        have y5 := h3.cell.frozen' (i := 5) (by omega)
        first
          | have h4 := h3.put (i := 5) (by omega) (.int .i64 1) { S with last := false, st := 1 } (all16 rfl rfl rfl rfl rfl rfl rfl rfl rfl rfl rfl rfl rfl rfl rfl rfl)
          | have h4 := h3.put (i := 5) (by omega) (.int .i64 1) { S with last := true, st := 1 } (all16 rfl rfl rfl rfl rfl rfl rfl rfl rfl rfl rfl rfl rfl rfl rfl rfl)
        go_wp2_with fail
        go_ret
        exact StepPost.go0 hs.out rfl h4 ⟨by rw [← hrb.out]; exact rb_algn hle, rfl, rfl, hL.left, hL.c0, hL.c1, hL.c2, hL.lens, fun e => by simp at e, fun e => by simp at e, fun e => by simp at e, fun e => by simp at e, hL.tail, hL.rem, hL.err⟩ rfl
    · have hs := Lib.hid (hstep.out.trans ((if_neg (by omega)).trans (if_pos hK)))
      have hf1 := Lib.hid fix_ok.1
      have hf2 := Lib.hid fix_ok.2
      clear hstep hK
      cases bl
      all_goals
        simp only [Bool.false_eq_true, if_true, if_false] at hA
        go_enter Try.func25, Try.ntmps25
        go_wp2_with fail
        refine (hbit.out _ h).mono ?_
        rintro e w1 ⟨rfl, h1⟩
        obtain ⟨j0, -, -, -, -, j5, j6, -⟩ := h1.cells
        have z5 := h1.cell.frozen' (i := 5) (by omega)
        have z6 := h1.cell.frozen' (i := 6) (by omega)
        go_wp2_with fail
        first
          | have h2 : InfS w0 c0 (w1.setCell ⟨g, 6, none⟩ (.bool false)) b0 g { M with a := M.a + 3 } { S with last := false } := h1.put (i := 6) (by omega) (.bool false) { S with last := false } (all16 rfl rfl rfl rfl rfl rfl rfl rfl rfl rfl rfl rfl rfl rfl rfl rfl); refine (fixed_any (w1.setCell ⟨g, 6, none⟩ (.bool false))).mono ?_
          | have h2 : InfS w0 c0 (w1.setCell ⟨g, 6, none⟩ (.bool true)) b0 g { M with a := M.a + 3 } { S with last := true } := h1.put (i := 6) (by omega) (.bool true) { S with last := true } (all16 rfl rfl rfl rfl rfl rfl rfl rfl rfl rfl rfl rfl rfl rfl rfl rfl); refine (fixed_any (w1.setCell ⟨g, 6, none⟩ (.bool true))).mono ?_
        rintro e w2 ⟨A1, d1, A2, d2, rfl, hoL, hoD, hb2⟩
        have h3 := h2.keeps hb2
        go_wp2_with fail
        refine (build_ok _ _ _ _ _ _ 15 hoL.rd (Nat.le_refl _) (Nat.le_refl _) hf1.out).mono ?_
        rintro e w3 ⟨g3, rfl, ht3, hb3⟩
        have h4 := (h3.putT hb3 ht3 (by rw [fixL_len]; omega)).2.1
        have h3k := h3.keeps hb3
        obtain ⟨-, -, -, -, -, -, -, -, -, -, -, -, -, i13, -, -⟩ := h3k.cells
        have y13 := h3k.cell.frozen' (i := 13) (by omega)
        have hoD4 := (hoD.keeps hb3).far (p := ⟨g, 13, none⟩) (fun (e : blkOf A2 = some g) => by have := (hoD.2.lt e).1; have := h2.cell.lt; omega) (.pointer (some ⟨g3, 0, none⟩))
        go_wp2_with fail
        refine (build_ok _ _ _ _ _ _ 15 hoD4.rd (Nat.le_refl _) (by omega) hf2.out).mono ?_
        rintro e w4 ⟨g4, rfl, ht4, hb4⟩
        have h5 := (h4.putT hb4 ht4 (by rw [fixD_len]; omega)).2.2
        have h4k := h4.keeps hb4
        obtain ⟨-, -, -, -, -, x5, -, -, -, -, -, -, -, -, x14, -⟩ := h4k.cells
        have u14 := h4k.cell.frozen' (i := 14) (by omega)
        have u5 := h4k.cell.frozen' (i := 5) (by omega)
        first
          | have h6 := h5.put (i := 5) (by omega) (.int .i64 6) { S with last := false, st := 6 } (all16 rfl rfl rfl rfl rfl rfl rfl rfl rfl rfl rfl rfl rfl rfl rfl rfl)
          | have h6 := h5.put (i := 5) (by omega) (.int .i64 6) { S with last := true, st := 6 } (all16 rfl rfl rfl rfl rfl rfl rfl rfl rfl rfl rfl rfl rfl rfl rfl rfl)
        go_wp2_with fail
        go_ret
        exact StepPost.go0 hs.out rfl h6 ⟨hrb.out, rfl, rfl, hL.left, hL.c0, hL.c1, hL.c2, hL.lens, fun e => by simp at e, fun _ => rfl, fun _ => rfl, fun e => by simp at e, hL.tail, hL.rem, hL.err⟩ rfl
    · have hs := Lib.hid (hstep.out.trans ((if_neg (by omega)).trans ((if_neg (by omega)).trans (if_pos hK))))
      clear hstep hK
      cases bl
      all_goals
        simp only [Bool.false_eq_true, if_true, if_false] at hA
        go_enter Try.func25, Try.ntmps25
        go_wp2_with fail
        refine (hbit.out _ h).mono ?_
        rintro e w1 ⟨rfl, h1⟩
        obtain ⟨j0, -, -, -, -, j5, j6, -⟩ := h1.cells
        have z5 := h1.cell.frozen' (i := 5) (by omega)
        have z6 := h1.cell.frozen' (i := 6) (by omega)
        first
          | have h4 := (h1.put (i := 6) (by omega) (.bool false) { S with last := false } (all16 rfl rfl rfl rfl rfl rfl rfl rfl rfl rfl rfl rfl rfl rfl rfl rfl)).put (i := 5) (by omega) (.int .i64 3) { S with last := false, st := 3 } (all16 rfl rfl rfl rfl rfl rfl rfl rfl rfl rfl rfl rfl rfl rfl rfl rfl)
          | skip
        have h5 := (h1.put (i := 6) (by omega) (.bool true) { S with last := true } (all16 rfl rfl rfl rfl rfl rfl rfl rfl rfl rfl rfl rfl rfl rfl rfl rfl)).put (i := 5) (by omega) (.int .i64 3) { S with last := true, st := 3 } (all16 rfl rfl rfl rfl rfl rfl rfl rfl rfl rfl rfl rfl rfl rfl rfl rfl)
        go_wp2_with fail
        go_ret
        first
          | exact StepPost.go0 hs.out rfl h4 ⟨hrb.out, rfl, rfl, hL.left, hL.c0, hL.c1, hL.c2, hL.lens, fun e => by simp at e, fun e => by simp at e, fun e => by simp at e, fun e => by simp at e, hL.tail, hL.rem, hL.err⟩ rfl
          | exact StepPost.go0 hs.out rfl h5 ⟨hrb.out, rfl, rfl, hL.left, hL.c0, hL.c1, hL.c2, hL.lens, fun e => by simp at e, fun e => by simp at e, fun e => by simp at e, fun e => by simp at e, hL.tail, hL.rem, hL.err⟩ rfl
    · have hs := Lib.hid (hstep.out.trans ((if_neg (by omega)).trans ((if_neg (by omega)).trans (if_neg (by omega)))))
      clear hstep hK
      cases bl
      all_goals
        simp only [Bool.false_eq_true, if_true, if_false] at hA
        go_enter Try.func25, Try.ntmps25
        go_wp2_with fail
        refine (hbit.out _ h).mono ?_
        rintro e w1 ⟨rfl, h1⟩
        obtain ⟨j0, -, -, -, -, j5, j6, -⟩ := h1.cells
        have z6 := h1.cell.frozen' (i := 6) (by omega)
        have h4 := (h1.put (i := 6) (by omega) (.bool false) { S with last := false } (all16 rfl rfl rfl rfl rfl rfl rfl rfl rfl rfl rfl rfl rfl rfl rfl rfl))
        have h5 := (h1.put (i := 6) (by omega) (.bool true) { S with last := true } (all16 rfl rfl rfl rfl rfl rfl rfl rfl rfl rfl rfl rfl rfl rfl rfl rfl))
        go_wp2_with fail
        go_ret
        first
          | exact StepPost.bad0 hs.out (by decide) (by decide) (by decide) rfl h4 hL.err rfl
          | exact StepPost.bad0 hs.out (by decide) (by decide) (by decide) rfl h5 hL.err rfl
end
end Go.Proofs.Ytjeedkjgjfbndaa
