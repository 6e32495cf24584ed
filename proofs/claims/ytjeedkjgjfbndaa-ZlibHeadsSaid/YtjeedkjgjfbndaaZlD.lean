/-
  The walk of a zlib decoder's bytes.
-/
import Derived.Test.YtjeedkjgjfbndaaZlC
namespace Go.Proofs.Ytjeedkjgjfbndaa
open Go.RowKit
set_option linter.unusedVariables false
theorem IS.step_keep {s : IS} (h0 : s.step.2 ≠ 0) (h6 : s.step.2 ≠ 6) : s.step.1.all = s.all := by
  have hem : ∀ (s : IS) b, (s.emit b).2 = 0 ∨ (s.emit b).2 = 6 := fun s b => by unfold IS.emit; simp only; split <;> simp
  unfold IS.step at h0 h6 ⊢
  by_cases e0 : s.st = 0
  · rw [if_pos e0] at h0 h6 ⊢; unfold IS.block at h0 h6 ⊢; revert h0 h6; repeat' split
    all_goals simp
  rw [if_neg e0] at h0 h6 ⊢
  by_cases e1 : s.st = 1
  · rw [if_pos e1] at h0 h6 ⊢; unfold IS.size at h0 h6 ⊢; revert h0 h6; repeat' split
    all_goals simp
  rw [if_neg e1] at h0 h6 ⊢
  by_cases e2 : s.st = 2
  · rw [if_pos e2] at h0 h6 ⊢; unfold IS.stored at h0 h6 ⊢; revert h0 h6; repeat' split
    · simp
    · simp
    · intro h0 h6; rcases hem { s with x := s.x.drop 8, left := s.left - 1 } [(num s.x 8 : Int)] with h | h
      · exact absurd h h0
      · exact absurd h h6
  rw [if_neg e2] at h0 h6 ⊢
  by_cases e3 : s.st = 3
  · rw [if_pos e3] at h0 h6 ⊢; unfold IS.sizes at h0 h6 ⊢; revert h0 h6; repeat' split
    all_goals simp
  rw [if_neg e3] at h0 h6 ⊢
  by_cases e4 : s.st = 4
  · rw [if_pos e4] at h0 h6 ⊢; unfold IS.heads at h0 h6 ⊢; revert h0 h6; repeat' split
    all_goals simp
  rw [if_neg e4] at h0 h6 ⊢
  by_cases e5 : s.st = 5
  · rw [if_pos e5] at h0 h6 ⊢; unfold IS.lengths IS.length IS.repeat_ at h0 h6 ⊢
    revert h0 h6; repeat' split
    all_goals simp
  rw [if_neg e5] at h0 h6 ⊢
  by_cases e6 : s.st = 6
  · rw [if_pos e6] at h0 h6 ⊢; unfold IS.token at h0 h6 ⊢
    revert h0 h6; repeat' split
    all_goals first
      | (intro h0 h6; exact ((hem _ _).elim (fun h => absurd h h0) (fun h => absurd h h6)))
      | simp
  rw [if_neg e6] at h0 h6 ⊢
  by_cases e7 : s.st = 7
  · rw [if_pos e7] at h0 h6 ⊢; unfold IS.dist IS.text at h0 h6 ⊢
    revert h0 h6; repeat' split
    all_goals first
      | (intro h0 h6; exact ((hem _ _).elim (fun h => absurd h h0) (fun h => absurd h h6)))
      | simp
  rw [if_neg e7] at h0 h6 ⊢
theorem IS.fin_bytes {s : IS} (h : s.Ok) : ∀ v ∈ s.fin.1.all, 0 ≤ v ∧ v < 256 := by
  obtain ⟨t, h1, h2⟩ := IS.fin_steps s
  have ht := h.steps h1
  rw [← h2]
  by_cases e : t.step.2 = 0 ∨ t.step.2 = 6
  · exact (ht.step e).by_
  · rw [IS.step_keep (fun h => e (.inl h)) (fun h => e (.inr h))]; exact ht.by_
theorem zfin_bytes (x : List Int) (m : Nat) : ∀ v ∈ (zFin x m).1.all, 0 ≤ v ∧ v < 256 := IS.fin_bytes (.start (Bit.bts _) m)
theorem zfin8 {s : IS} (h : s.Ok) (e : s.fin.2 = 8) : s.fin.1.st = 8 := by
  obtain ⟨t, h1, h2⟩ := IS.fin_steps s
  rw [← h2] at e ⊢
  obtain ⟨h3, a0, a1, a2, a3, a4, a5, a6, a7⟩ := IS.step_done e
  rw [h3]
  have := (h.steps h1).st8
  omega
theorem ztake_len {F : IS × Int} {a : List Int} {M : DM} {S : DS} {n : Nat} {l : List Int} {r : Int} (h : TakeE F a M S n l r) : l.length ≤ n := by
  rcases h with ⟨_, h, _⟩ | ⟨_, h, _⟩ | ⟨_, _, _, h, _⟩
  · omega
  · omega
  · rw [h]; simp
theorem ztake_in {F : IS × Int} {a : List Int} {M : DM} {S : DS} {n : Nat} {l : List Int} {r : Int} (h : TakeE F a M S n l r) : ZIn F a M S := by
  rcases h with ⟨_, _, h⟩ | ⟨_, _, _, ⟨s, h, _⟩ | ⟨_, h⟩⟩ | ⟨_, _, _, _, _, _, h⟩
  · exact h
  · exact .inl ⟨s, h⟩
  · exact .inr h
  · exact .inr h
/-- what bytes gives -/
def BytPost (w : World) (b0 g : Nat) (E : Nat → Prop) (x a : List Int) (m : Nat) (en : Bool) (er : Int) (p : Option Addr) (n : Nat) (e : Ending) (w' : World) : Prop :=
  ∃ A k cp l r c Z, e = .returned (.tuple #[.slice A k cp, .int .i64 r]) ∧ RdI .u8 w' w'.heap.size A k l ∧ l.length ≤ n ∧ ZlC w' b0 g c Z ∧ ZPh w' (g + 1) c x (a ++ l) Z ∧ Z.m = m ∧ Z.en = en ∧ Z.err = er ∧ Z.p = p ∧ Z.sum = adlF 1 (a ++ l) ∧ Ext b0 w w' E (zX g c Z.A) ∧
    ((r = 0 ∧ ((Z.beh = true ∧ l = []) ∨ (Z.beh = false ∧ 0 < l.length))) ∨ (r ≠ 0 ∧ l = [] ∧ Z.beh = false ∧ a = zAll x m ∧ r = zE x m en))
set_option maxRecDepth 100000 in
set_option maxHeartbeats 4000000 in
theorem zbytes_any (w : World) (b0 g : Nat) (c : Nat → Nat) (Z : ZR) (x a : List Int) (h1 : ZlC w b0 g c Z) (bI gd : Nat) (M : DM) (S : DS) (hp : Z.p = some ⟨gd, 0, none⟩) (hbI : g + 1 ≤ bI) (hM : InfM w bI gd c M S) (hz : zHd x = 0) (hbeh : Z.beh = false) (hovr : Z.ovr = false) (hA : Z.A = none) (hn : Z.n = 0) (hcp : Z.cp = 0) (hl : Z.l = [])
    (hin : ZIn (zFin x Z.m) (a ++ M.out) M S) (hml : M.out.length ≤ 70000) (hs : Z.sum = adlF 1 a) (n : Nat) (hn0 : 0 < n) (hnm : n ≤ 1000000000) :
    Calls Try.prog 14 #[.pointer (some ⟨g, 0, none⟩), .int .i64 n] w (BytPost w b0 g (zX g c Z.A) x a Z.m Z.en Z.err Z.p n) := by
  have hTK := dtake_any hM.refl hin (n : Int) n (by omega) hnm (by omega)
  obtain ⟨-, -, k2, -, -, -, -, -⟩ := h1.cells
  rw [hp] at k2
  have HTK := Lib.hid hTK
  have HH := Lib.hid (⟨hp, hbI, hz, hbeh, hovr, hA, hn, hcp, hl, hs⟩ : _ ∧ _ ∧ _ ∧ _ ∧ _ ∧ _ ∧ _ ∧ _ ∧ _ ∧ _)
  have H1 := Lib.hid h1
  have HM := Lib.hid hM
  have HN := Lib.hid (⟨hn0, hnm⟩ : _ ∧ _)
  have HML := Lib.hid hml
  have hnI : (0 : Int) < n ∧ (n : Int) ≤ 1000000000 := by omega
  clear hTK hin hml h1 hM hn0 hnm hp hbI hz hbeh hovr hA hn hcp hl hs
  go_enter Try.func14, Try.ntmps14
  go_wp2_with fail
  refine HTK.out.mono ?_
  rintro e w5 ⟨A5, k5, d5, r, M5, S5, b5, l, c5, rfl, ho5, hM5, hD5, hq5, hcat, hml5, hE⟩
  obtain ⟨hp, hbI, hz, hbeh, hovr, hA, hn, hcp, hl, hs⟩ := HH.out
  have hk5 := ho5.1
  have hln := ztake_len hE
  have hal : (a ++ M.out) ++ b5 = (a ++ l) ++ M5.out := by rw [List.append_assoc, hcat, List.append_assoc]
  rw [hal] at hE
  have hin5 := ztake_in hE
  have hlby : ∀ v ∈ l, 0 ≤ v ∧ v < 256 := fun v hv => by
    obtain ⟨t, ht⟩ := hin5.pre
    exact zfin_bytes x Z.m v (by rw [ht]; simp [hv])
  have hc5g : c5 g = 0 := by rw [hD5.2.2 g H1.out.cell.lt]; exact H1.out.cg
  have hcF : ∀ k, c k ≠ 0 → k ≠ g ∧ blkOf Z.A ≠ some k := fun k hk => ⟨fun e => hk (by rw [e]; exact H1.out.cg), fun e => hk (H1.out.cA k e).2⟩
  have h5 : ZlC w5 b0 g c5 Z := H1.out.chg hD5.2.1 hcF (fun k hk => ⟨by have := (hM5.cb k hk).1; have := H1.out.lo; omega, (hM5.cb k hk).2⟩) hc5g (fun k hk => by rw [hA] at hk; simp [blkOf] at hk)
  have hext5 : Ext b0 w w5 (zX g c Z.A) (zX g c5 Z.A) := Ext.of (hD5.2.1.more fun k hk => .inr (.inr hk)) H1.out.xlo H1.out.low fun k hk => by
    rcases hk with hk | hk | hk
    · exact .inl (.inl hk)
    · exact .inl (.inr (.inl hk))
    · rcases Nat.lt_or_ge k w.heap.size with h | h
      · exact .inl (.inr (.inr (by rw [← hD5.2.2 k h]; exact hk)))
      · exact .inr h
  obtain ⟨-, -, kk2, -, -, kk5, -, -⟩ := h5.cells
  have z5 := h5.frz (i := 5) (by omega)
  have hsb := h5.sm
  have hAD := adler_any Z.sum A5 k5 d5 w5.heap.size l w5 ho5.rd (fun i => by
    have h := ix_wf (k := .u8) (l := l) (fun v hv => by have := hlby v hv; simp [Lit.wf, IntKind.min, IntKind.max, IntKind.signed, IntKind.bits]; omega) (by decide) i
    exact bounds_u8 h) hsb (by have := HN.out; omega)
  have hval : adY (lowH Z.sum) (highH Z.sum) l k5 * 65536 + adX (lowH Z.sum) l k5 = adlF 1 (a ++ l) := by
    rw [hk5, ← adlF_app, ← hs]; rfl
  rw [hval] at hAD
  obtain ⟨V, hV⟩ : ∃ V, adlF 1 (a ++ l) = V := ⟨_, rfl⟩
  rw [hV] at hAD
  obtain ⟨s0, hs0⟩ : ∃ s0, Z.sum = s0 := ⟨_, rfl⟩
  rw [hs0] at hAD kk5
  have hVb : 0 ≤ V ∧ V < 4294967296 := by rw [← hV]; exact adlF_bd _ _
  have HAD := Lib.hid hAD
  have hcs : Chg w5 (w5.setCell ⟨g, 5, none⟩ (.int .u32 V)) (fun k => k = g) := Chg.setCell (S := fun k => k = g) (Chg.refl w5 _) (p := ⟨g, 5, none⟩) (.inl rfl) _
  have h6 : ZlC (w5.setCell ⟨g, 5, none⟩ (.int .u32 V)) b0 g c5 { Z with sum := V } := h5.turn hcs ((h5.cell.set_ (i := 5) (by omega) _).congr (all8 rfl rfl rfl rfl rfl rfl rfl rfl)) ⟨rfl, rfl, rfl, rfl⟩ hVb
  have hM6 : InfM (w5.setCell ⟨g, 5, none⟩ (.int .u32 V)) bI gd c5 M5 S5 := hM5.aside hcs (fun k hk => by rw [hk]; exact hc5g)
  have hext6 : Ext b0 w (w5.setCell ⟨g, 5, none⟩ (.int .u32 V)) (zX g c Z.A) (zX g c5 Z.A) := hext5.trans (Ext.of (hcs.more fun k hk => .inl hk) h5.xlo h5.low fun k hk => .inl hk)
  have hr6 : RdI .u8 (w5.setCell ⟨g, 5, none⟩ (.int .u32 V)) w5.heap.size A5 k5 l := hcs.rdI ho5.rd (Nat.le_refl _) (fun h0 ad e hk => by
    have e2 : blkOf A5 = some ad.block := by rw [e]; rfl
    have h8 := (ho5.2.lt e2).1
    have hk : ad.block = g := hk
    omega)
  have hsz6 : (w5.setCell ⟨g, 5, none⟩ (.int .u32 V)).heap.size = w5.heap.size := by simp [World.setCell]
  have hk5b : (k5 : Int) ≤ 1000000000 ∧ (0 : Int) ≤ k5 := by have := HN.out; omega
  -- what is told where the stream goes on or ends by a fault
  have hfin : Hid (∀ v : Int, ((v = 0 ∧ 0 < l.length) ∨ (v ≠ 0 ∧ l = [] ∧ a = zAll x Z.m ∧ v = zE x Z.m Z.en)) → BytPost w b0 g (zX g c Z.A) x a Z.m Z.en Z.err Z.p n (.returned (.tuple #[.slice A5 k5 d5, .int .i64 v])) (w5.setCell ⟨g, 5, none⟩ (.int .u32 V))) := fun v hv => by
    refine ⟨A5, k5, d5, l, v, c5, { Z with sum := V }, rfl, hr6.more (Nat.le_of_eq hsz6.symm), hln, h6, .inr ⟨bI, gd, M5, S5, hp, hbI, hM6, hz, .inl ⟨hbeh, hovr, hA, hn, hcp, hl, hin5, by have := HML.out; omega⟩⟩, rfl, rfl, rfl, rfl, hV.symm, hext6, ?_⟩
    rcases hv with ⟨h, h'⟩ | ⟨h, h', h'', h3⟩
    · exact .inl ⟨h, .inr ⟨hbeh, h'⟩⟩
    · exact .inr ⟨h, h', hbeh, h'', h3⟩
  unfold TakeE at hE
  have HE := Lib.hid hE
  have H6 := Lib.hid (⟨h6, hM6, hext6, hext5⟩ : _ ∧ _ ∧ _ ∧ _)
  have HV := Lib.hid hV
  have HK5 := Lib.hid hk5
  have HLN := Lib.hid hln
  have kk2' : (w5.setCell ⟨g, 5, none⟩ (.int .u32 V)).cell? ⟨g, 2, none⟩ = some (.pointer (some ⟨gd, 0, none⟩)) := by
    obtain ⟨-, -, q2, -⟩ := h6.cells
    rw [q2]; show some (Value.pointer Z.p) = _; rw [hp]
  rw [hp] at kk2
  clear h6 hM6 hext6 hext5 hE hV hk5 hln hr6 hsz6 hcs h5 hAD hval hin5 hlby hal hcat hml5 hq5 hc5g hcF hs0 hbeh hovr hA hn hcp hl hs hp hbI hz hVb hsb
  have hcs := HE.out
  clear HE
  have hzx : Hid (zHd x = 0) := HH.out.2.2.1
  rcases hcs with ⟨rfl, q1, q2⟩ | ⟨rfl, q1, q2, q3⟩ | ⟨q1, q2, q3, q4, q5, q6, q7⟩
  · have hk0 : (0 : Int) < (k5 : Int) ∧ 0 < k5 := by have := HK5.out; have := HN.out; omega
    have hf := Lib.hid (hfin.out 0 (.inl ⟨rfl, by have := HK5.out; omega⟩))
    clear q2 hfin
    go_wp2_with fail
    refine HAD.out.mono ?_
    rintro e w8 ⟨rfl, rfl⟩
    go_wp2_with fail
    go_returns
    exact hf.out
  · by_cases hk0 : 0 < k5
    · have hk0I : (0 : Int) < (k5 : Int) := by omega
      have hf := Lib.hid (hfin.out 0 (.inl ⟨rfl, by have := HK5.out; omega⟩))
      clear q2 q3 hfin
      go_wp2_with fail
      refine HAD.out.mono ?_
      rintro e w8 ⟨rfl, rfl⟩
      go_wp2_with fail
      go_returns
      exact hf.out
    · have hl0 : l = [] := List.eq_nil_of_length_eq_zero (by have := HK5.out; omega)
      have hf : Hid (BytPost w b0 g (zX g c Z.A) x a Z.m Z.en Z.err Z.p n (.returned (.tuple #[.slice A5 k5 d5, .int .i64 5])) (w5.setCell ⟨g, 5, none⟩ (.int .u32 V))) := by
        refine hfin.out 5 (.inr ⟨by decide, hl0, ?_⟩)
        rcases q3 with ⟨s, q3, q4⟩ | ⟨q3, _⟩
        · obtain ⟨e1, e2⟩ := zalive_end q3 q4
          rw [q2, List.append_nil, hl0, List.append_nil] at e2
          refine ⟨?_, ?_⟩
          · unfold zAll; rw [if_neg (by rw [hzx.out]; decide)]; exact e2.symm
          · unfold zE; rw [if_neg (by rw [hzx.out]; decide), if_pos (by rw [e1]; decide), e1]
        · rw [hl0] at q3; simp at q3
      have hk0I : ¬ (0 : Int) < (k5 : Int) := by omega
      clear q2 q3 hfin
      go_wp2_with fail
      refine HAD.out.mono ?_
      rintro e w8 ⟨rfl, rfl⟩
      go_wp2_with fail
      go_returns
      exact hf.out
  · have hk0 : k5 = 0 := by have := HK5.out; rw [q4] at this; simpa using this
    subst hk0
    by_cases hr8 : r = 8
    · obtain rfl : r = 8 := hr8
      obtain ⟨h6, hM6, hext6, -⟩ := H6.out
      have h8F : (zFin x Z.m).2 = 8 := q3.symm
      have he8 : S5.err = 8 := by rw [q7.err]; exact h8F
      obtain ⟨hL8, hO8⟩ := q7.at8 h8F
      have hst8 := zfin8 (s := start (bts (x.drop 2)) Z.m) (.start (Bit.bts _) Z.m) h8F
      have hev := hO8.even (.inr (.inr hst8))
      have hx8 := hL8.x
      rw [← hx8, rb_length] at hev
      have hle8 := hM6.rdr.le
      have hrs := drest_done hM6.refl he8 (by omega)
      have hbx : bts (M5.B.drop (M5.a / 8)) = (zFin x Z.m).1.x := by
        rw [bts_drop, ← hx8]
        unfold rb
        rw [show 8 * (M5.a / 8) = M5.a by omega]
      have hall : a = (zFin x Z.m).1.all := by
        have e2 := q7.all
        rw [q6, List.append_nil, q4, List.append_nil] at e2
        exact e2.symm
      have hRb : ∀ v ∈ M5.B.drop (M5.a / 8), 0 ≤ v ∧ v < 256 := fun v hv => hM6.rdr.by_ v (List.mem_of_mem_drop hv)
      have hc5g : c5 g = 0 := h6.cg
      have hgl : g < (w5.setCell ⟨g, 5, none⟩ (.int .u32 V)).heap.size := h6.cell.lt
      have hgar := h6.cell
      have HRS := Lib.hid hrs
      have HK8 := Lib.hid (⟨h8F, hbx, hall, hRb⟩ : _ ∧ _ ∧ _ ∧ _)
      have HQ4 := Lib.hid q4
      clear hev hx8 hle8 hrs h8F he8 hst8 hL8 hO8 hbx hall hRb q1 q2 q3 q5 q6 q7 hfin h6 hM6 hext6 q4
      go_wp2_with fail
      refine HAD.out.mono ?_
      rintro e w8 ⟨rfl, rfl⟩
      go_wp2_with fail
      refine HRS.out.mono ?_
      rintro e w7 ⟨A7, k7, c7, rfl, ho7, c8, hM8, hD8, hq8⟩
      have har7 := hD8.2.1.ar hgar (fun e => e hc5g)
      have z71 := har7.frozen' (i := 1) (by omega)
      have z73 := har7.frozen' (i := 3) (by omega)
      have kk71 := har7.cell (i := 1) (by omega)
      have kk73 := har7.cell (i := 3) (by omega)
      have hf : Hid (BytPost w b0 g (zX g c Z.A) x a Z.m Z.en Z.err Z.p n (.returned (.tuple #[.slice none 0 0, .int .i64 0])) ((w7.setCell ⟨g, 1, none⟩ (.slice A7 k7 c7)).setCell ⟨g, 3, none⟩ (.bool true))) := by
        obtain ⟨h6, hM6, hext6, -⟩ := H6.out
        obtain ⟨h8F, hbx, hall, hRb⟩ := HK8.out
        obtain ⟨hp, hbI, hz, hbeh, hovr, hA, hn, hcp, hl, hs⟩ := HH.out
        have hlow := h6.low
        have hA7 : ∀ q, blkOf A7 = some q → (w5.setCell ⟨g, 5, none⟩ (.int .u32 V)).heap.size ≤ q := fun q hq => (ho7.2.lt hq).1
        have hA7g : blkOf A7 ≠ some g := fun e => by have := hA7 g e; omega
        have hcs : Chg w7 ((w7.setCell ⟨g, 1, none⟩ (.slice A7 k7 c7)).setCell ⟨g, 3, none⟩ (.bool true)) (fun k => k = g) := Chg.setCell (S := fun k => k = g) (Chg.setCell (S := fun k => k = g) (Chg.refl w7 _) (p := ⟨g, 1, none⟩) (.inl rfl) _) (p := ⟨g, 3, none⟩) (.inl rfl) _
        have hc8g : c8 g = 0 := by rw [hD8.2.2 g hgl]; exact hc5g
        refine ⟨none, 0, 0, [], 0, c8, { Z with sum := V, A := A7, n := k7, cp := c7, l := M5.B.drop (M5.a / 8), beh := true }, rfl, ⟨rfl, Rd.nil_⟩, Nat.zero_le _, ⟨?_, h6.lo, ?_, hRb, hc8g, fun q hq => ⟨fun e => hA7g (by rw [hq, e]), hq8 q hq⟩, fun q hq => ⟨?_, Nat.lt_of_lt_of_le (hM8.cb q hq).2 hcs.size⟩, h6.sm⟩, .inr ⟨bI, gd, _, S5, hp, hbI, hM8.aside hcs (fun k hk => by rw [hk]; exact hc8g), hz, .inr ⟨rfl, h8F, by rw [List.append_nil]; exact hall, _, hbx, hRb, .inl ⟨hovr, rfl⟩⟩⟩, rfl, rfl, rfl, rfl, ?_, hext6.trans ⟨?_, ?_, fun k hk => ?_⟩, .inl ⟨rfl, .inl ⟨rfl, rfl⟩⟩⟩
        · exact ((har7.set_ (i := 1) (by omega) _).set_ (i := 3) (by omega) _).congr (all8 rfl rfl rfl rfl rfl rfl rfl rfl)
        · exact ((ho7.more hlow).up.far (p := ⟨g, 1, none⟩) hA7g _).far (p := ⟨g, 3, none⟩) hA7g _
        · have := (hM8.cb q hq).1; have := h6.lo; omega
        · show V = _; rw [← HV.out, HQ4.out]
        · exact ((hD8.1.mono (by have := h6.lo; omega)).setCell (p := ⟨g, 1, none⟩) h6.lo _).setCell (p := ⟨g, 3, none⟩) h6.lo _
        · exact ((hD8.2.1.more fun k hk => .inr (.inr hk)).setCell (p := ⟨g, 1, none⟩) (.inl (.inl rfl)) _).setCell (p := ⟨g, 3, none⟩) (.inl (.inl rfl)) _
        · rcases hk with hk | hk | hk
          · exact .inl (.inl hk)
          · exact .inr (hA7 k hk)
          · rcases Nat.lt_or_ge k (w5.setCell ⟨g, 5, none⟩ (.int .u32 V)).heap.size with h | h
            · exact .inl (.inr (.inr (by rw [← hD8.2.2 k h]; exact hk)))
            · exact .inr h
      clear ho7 hM8 hD8 hq8 har7 hgar HRS
      go_wp2_with fail
      go_returns
      exact hf.out
    · have hr8' : (r == 8) = false := by simpa using hr8
      have hf : Hid (BytPost w b0 g (zX g c Z.A) x a Z.m Z.en Z.err Z.p n (.returned (.tuple #[.slice A5 0 d5, .int .i64 r])) (w5.setCell ⟨g, 5, none⟩ (.int .u32 V))) := by
        refine hfin.out r (.inr ⟨q1, q4, ?_, ?_⟩)
        · have e2 := q7.all
          rw [q6, List.append_nil, q4, List.append_nil] at e2
          unfold zAll; rw [if_neg (by rw [hzx.out]; decide)]; exact e2.symm
        · unfold zE; rw [if_neg (by rw [hzx.out]; decide), if_pos (by rw [← q3]; exact hr8), q3]
      clear q1 q2 q3 q5 q6 q7 hfin hr8
      go_wp2_with fail
      refine HAD.out.mono ?_
      rintro e w8 ⟨rfl, rfl⟩
      go_wp2_with fail
      go_returns
      exact hf.out
end Go.Proofs.Ytjeedkjgjfbndaa
