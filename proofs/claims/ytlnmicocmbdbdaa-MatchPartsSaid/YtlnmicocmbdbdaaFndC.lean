/-
  The walks of the finder's enter and pass.
-/
import Derived.Test.YtlnmicocmbdbdaaFndB
import Derived.LoopTactic
namespace Go.Proofs.Ytlnmicocmbdbdaa
open Go.RowKit Go.Maps
set_option linter.unusedVariables false

theorem OwnI.set_ {k : IntKind} {w : World} {b0 g n c : Nat} {e : TypeId} {l : List Int} (h : OwnI k w b0 e (some ⟨g, 0, none⟩) n c l) {i : Nat} (hi : i < n) (v : Int) : OwnI k (w.setCell ⟨g, i, none⟩ (.int k v)) b0 e (some ⟨g, 0, none⟩) n c (l.set i v) :=
  ⟨by rw [List.length_set]; exact h.1, (h.2.set_ (i := i) (by omega) (.int k v)).congr fun j hj => by
    unfold upd
    rw [ix_set _ _ _ _ (by rw [← h.1]; exact hi)]
    split <;> rfl⟩
theorem drop_set {l : List Int} {i b : Nat} {v : Int} : (l.set (b + i) v).drop b = (l.drop b).set i v := by
  rw [List.drop_set, if_neg (by omega), Nat.add_sub_cancel_left]
section
variable {w w' w1 w2 : World} {b0 g p n c gm nm np cp gd : Nat} {e : Eff} {st : FSt} {A Ap : Option Addr} {Dm : DataW Unit}
theorem FndC.entered (h : FndC w b0 g e st p A n c gm nm Dm Ap np cp) (hp : p < st.D.length) {H : Int} (hH : hashAt st.D p = H) (hHb : 0 ≤ H ∧ H < 4294967296) (hne : ¬ (e.chain = 0 ∨ st.D.length < p + 3)) (hAp : blkOf Ap = some gd) (hc : Chg w w1 (fun k => k = gd))
    (ho : OwnI .i64 w1 b0 3 Ap np cp ((st.P.set p (was st H)).drop st.base)) (hg : w1.grownBy w2 (some gm)) (hm : w2.ownsMap Try.prog 61 (plainElem Try.prog 3) gm (nm + 1) (Dm.put (.int .u32 H) (.lit (.int .i64 p)))) :
    FndC w2 b0 g e (enterF e st p) (p + 1) A n c gm (nm + 1) (Dm.put (.int .u32 H) (.lit (.int .i64 p))) Ap np cp ∧ Chg w w2 (FF A gm Ap g) := by
  have hgd : gd ≠ g := fun e => h.d2 (by rw [hAp, e])
  have hgdm : gd ≠ gm := fun e => h.d6 (by rw [hAp, e])
  have hgdA : blkOf A ≠ some gd := fun e => h.d4 gd e hAp
  have hok := h.ok.enter (e := e) (p := p) hp
  have hE : enterF e st p = { st with P := st.P.set p (was st H), head := fun x => if x = H then some (p : Int) else st.head x } := by unfold enterF; rw [if_neg hne, hH]
  have hc2 : Chg w1 w2 (fun k => k = gm) := (Chg.refl w1 _).grown hg fun k hk => by injection hk with hk; exact .inl hk.symm
  have hkl : WideAt.IsKeyLit (.int .u32 H) := by exact (by trivial)
  rw [hE] at hok ⊢
  refine ⟨⟨hc2.ar (hc.ar h.cell fun e => hgd e.symm) fun e => h.d3 e.symm, h.lo, hc2.ownI (hc.ownI h.own fun q hq e => hgdA (by rw [hq, e])) fun q hq e => h.d5 (by rw [hq, e]), hc2.ownI ho fun q hq e => h.d6 (by rw [hq, e]), hm, h.rep.put H p hkl, h.glo, by have := h.nmb; omega, h.d1, h.d2, h.d3, h.d4, h.d5, h.d6, hok, h.by_, h.eb, h.big⟩, ?_⟩
  exact (hc.more fun k hk => .inr (.inr (.inr (by rw [hAp, hk])))).trans (hc2.more fun k hk => .inr (.inl hk)) fun k hk => .inl hk
def EnterPost (w : World) (b0 g : Nat) (e : Eff) (st : FSt) (b : Nat) (A : Option Addr) (n c gm : Nat) (Ap : Option Addr) (np cp : Nat) (r : Ending) (w' : World) : Prop :=
  r = .returned (.tuple #[]) ∧ (∃ nm Dm, FndC w' b0 g e st b A n c gm nm Dm Ap np cp) ∧ Chg w w' (FF A gm Ap g)
set_option maxRecDepth 100000 in
set_option maxHeartbeats 4000000 in
theorem enter_any (p : Nat) (h : FndC w b0 g e st p A n c gm nm Dm Ap np cp) (hp : st.base ≤ p) (hp2 : p < st.D.length) :
    Calls Try.prog 25 #[.pointer (some ⟨g, 0, none⟩), .int .i64 p] w (EnterPost w b0 g e (enterF e st p) (p + 1) A n c gm Ap np cp) := by
  obtain ⟨c0, c1, -, c3, c4, -, c6, c7⟩ := ff_c h
  have hb := h.big
  have heb := h.eb
  have hend := end_any h
  have hsame : e.chain = 0 ∨ st.D.length < p + 3 → ∀ q, EnterPost w b0 g e (enterF e st p) (p + 1) A n c gm Ap np cp (.returned (.tuple #[])) (w.drewN q) := fun hc q => by
    have hE : enterF e st p = st := by unfold enterF; rw [if_pos hc]
    have hq := h.drewN q
    rw [hE]
    exact ⟨rfl, ⟨nm, Dm, hq.cell, hq.lo, hq.own, hq.ownp, hq.map, hq.rep, hq.glo, by have := hq.nmb; omega, hq.d1, hq.d2, hq.d3, hq.d4, hq.d5, hq.d6, ⟨hq.ok.len, hq.ok.lo, hq.ok.hi, hp2, hq.ok.prev, fun x k hk => by have := hq.ok.hd x k hk; omega⟩, hq.by_, hq.eb, hq.big⟩, (Chg.refl w _).drewN q⟩
  have HS := Lib.hid hsame
  clear hsame
  obtain ⟨L, hL⟩ : ∃ L, st.D.length = L := ⟨_, rfl⟩
  obtain ⟨ch, hch⟩ : ∃ ch, e.chain = ch := ⟨_, rfl⟩
  rw [hch] at c0 heb
  rw [hL] at hb hend
  have hI : (p : Int) < L ∧ (L : Int) ≤ 100000000000 ∧ (0 : Int) ≤ p ∧ (0 : Int) ≤ ch ∧ (ch : Int) ≤ 256 := by omega
  have HL := Lib.hid hL
  have HCH := Lib.hid hch
  clear hL hch
  by_cases hc0 : ch = 0
  · subst hc0
    go_enter Try.func25, Try.ntmps25
    go_wp2_with fail
    go_returns
    exact HS.out (.inl HCH.out) 0
  · have hc0I : ((ch : Int) == 0) = false := by simpa using hc0
    by_cases hsh : L < p + 3
    · have hshI : (L : Int) < (p : Int) + 3 := by omega
      go_enter Try.func25, Try.ntmps25
      go_wp2_with fail
      refine hend.mono ?_
      rintro r w1 ⟨rfl, q1, rfl⟩
      go_wp2_with fail
      go_returns
      exact HS.out (.inr (by rw [HL.out]; exact hsh)) q1
    · have hshI : ¬ (L : Int) < (p : Int) + 3 := by omega
      obtain ⟨H, hH⟩ : ∃ H, hashAt st.D p = H := ⟨_, rfl⟩
      have hHb : 0 ≤ H ∧ H < 4294967296 := by rw [← hH]; have := hs3_bd (ix st.D p) (ix st.D (p + 1)) (ix st.D (p + 2)); unfold hashAt; omega
      have hhash : ∀ m, Calls Try.prog 26 #[.pointer (some ⟨g, 0, none⟩), .int .i64 p] (w.drewN m) fun r w' => r = .returned (.int .u32 H) ∧ ∃ q, w' = (w.drewN m).drewN q := fun m => by
        have := hash_any (h.drewN m) p hp (by rw [HL.out]; omega)
        rwa [hH] at this
      obtain ⟨i, hi⟩ : ∃ i, p = st.base + i := ⟨p - st.base, by omega⟩
      have hin : i < n := by have := h.n_eq; have := HL.out; omega
      have hnp := h.np_eq
      obtain ⟨gd, hA, cc⟩ := h.place hin
      have hown := h.ownp
      have hmap := h.map
      have hne : ¬ (e.chain = 0 ∨ st.D.length < p + 3) := by rw [HL.out, HCH.out]; omega
      have hgd : gd ≠ g := fun e2 => h.d2 (by rw [hA, ← e2]; rfl)
      have hgd2 : g ≠ gd := fun e2 => hgd e2.symm
      have hgdm : gm ≠ gd := fun e2 => h.d6 (by rw [hA, e2]; rfl)
      rw [hA] at hown c7
      have zf := hown.2.frozen i
      have hent := fun w1 w2 => h.entered (w1 := w1) (w2 := w2) (gd := gd) hp2 hH hHb hne (by rw [hA]; rfl)
      rw [hA] at hent
      have HENT := Lib.hid hent
      obtain ⟨B, hB⟩ : ∃ B, st.base = B := ⟨_, rfl⟩
      have hset : ∀ v, (st.P.set p v).drop st.base = (st.P.drop st.base).set i v := fun v => by rw [hi, drop_set]
      have HSET := Lib.hid hset
      rw [hB] at c4
      have hwI : IntKind.i64.wrap ((p : Int) - (B : Int)) = (i : Int) := by rw [IntWalk.i64_in _ (by omega)]; omega
      have hKB : (p : Int) - (B : Int) = (i : Int) := by omega
      have hinI : (0 : Int) ≤ i ∧ (i : Int) < (np : Int) := by omega
      have hnmb := h.nmb
      have hw0 := h.look hHb 0
      have hlk := h.look hHb
      have hinp : i < np := by omega
      obtain ⟨hd, hhd⟩ : ∃ hd, st.head H = hd := ⟨_, rfl⟩
      have hwas : Hid (was st H = hd.getD (-1)) := by show _ = _; unfold was; rw [hhd]
      have hrep := (h.rep.2 H).1
      have hrep2 : Hid (Dm.atKey (.int .u32 H) (.lit (.int .i64 0)) = .lit (.int .i64 (hd.getD 0))) := by show _ = _; rw [← hhd]; exact (h.rep.2 H).2
      rw [hhd] at hlk hrep
      have hgs := h.cell.lt
      obtain ⟨V, hV⟩ : ∃ V, ix st.P (st.base + i) = V := ⟨_, rfl⟩
      rw [hV] at cc
      have hA3 := Lib.hid hA
      have hmax : nm < maxLen := by unfold maxLen; omega
      have hpw : (Lit.int .i64 (p : Int)).wf = true := by simp [Lit.wf, IntKind.min, IntKind.max, IntKind.signed, IntKind.bits]; omega
      clear hH hi hin hB hne hent hset hhd hw0 hV hA hnp
      cases hd with
      | none =>
        simp only [Option.getD_none, Option.isSome_none] at hlk
        go_enter Try.func25, Try.ntmps25
        go_wp2_with fail
        refine hend.mono ?_
        rintro r w1 ⟨rfl, q1, rfl⟩
        go_wp2_with fail
        refine (hhash q1).mono ?_
        rintro r w1 ⟨rfl, q2, rfl⟩
        go_wp2_with fail
        go_region
        have hc1 : Chg w ((w.drewN (q1 + q2 + 1)).setCell ⟨gd, i, none⟩ (.int .i64 (-1))) (fun k => k = gd) := ((Chg.refl w (fun k => k = gd)).drewN _).setCell (p := ⟨gd, i, none⟩) (.inl rfl) _
        have hm1 := map_keep hmap (hc1.block gm hmap.lt hgdm)
        have ho1 := OwnI.set_ (hown.drewN (q1 + q2 + 1)) hinp (-1)
        go_wp2_with (first
          | (at_lookup; refine wpList_lookup_own_ok_int _ rfl _ _ 52 rfl 61 3 .i64 law32 Try.underlying52 Try.underlying3 (zeroInt _) gm nm Dm rfl hm1 _ _ rfl (key32 hHb) ?_; intro c hat hwc; rw [hrep]; simp only [Option.isSome_none])
          | (at_mapUpdate; refine wpList_mapUpdate_own _ rfl _ _ _ 52 rfl 61 3 law32 Try.underlying52 (plainElem Try.prog 3) gm nm Dm rfl hm1 hmax _ _ _ rfl rfl (key32 hHb) _ [] (plainElem_int Try.underlying3 hpw) ?_; intro w5 hown5 hgrow5))
        go_returns
        obtain ⟨r1, r2⟩ := HENT.out _ w5 hc1 (by rw [hwas.out, HSET.out]; exact ho1) hgrow5 hown5
        exact ⟨rfl, ⟨_, _, by rw [hA3.out]; exact r1⟩, by rw [hA3.out]; exact r2⟩
      | some k =>
        simp only [Option.getD_some, Option.isSome_some] at hlk
        go_enter Try.func25, Try.ntmps25
        go_wp2_with fail
        refine hend.mono ?_
        rintro r w1 ⟨rfl, q1, rfl⟩
        go_wp2_with fail
        refine (hhash q1).mono ?_
        rintro r w1 ⟨rfl, q2, rfl⟩
        go_wp2_with fail
        go_region
        have hc1 : Chg w ((w.drewN (q1 + q2 + 1)).setCell ⟨gd, i, none⟩ (.int .i64 (-1))) (fun k => k = gd) := ((Chg.refl w (fun k => k = gd)).drewN _).setCell (p := ⟨gd, i, none⟩) (.inl rfl) _
        have hm1 := map_keep hmap (hc1.block gm hmap.lt hgdm)
        have ho1 := OwnI.set_ (hown.drewN (q1 + q2 + 1)) hinp (-1)
        go_wp2_with (at_lookup; refine wpList_lookup_own_ok_int _ rfl _ _ 52 rfl 61 3 .i64 law32 Try.underlying52 Try.underlying3 (zeroInt _) gm nm Dm rfl hm1 _ _ rfl (key32 hHb) ?_; intro c hat hwc; rw [hrep]; simp only [Option.isSome_some])
        have hck : c = k := by
          have h5 := hrep2.out
          rw [hat] at h5
          injection h5 with h5
          injection h5
        subst hck
        have zf1 := ho1.2.frozen i
        have cc1 := ho1.2.cell (i := i) (by omega)
        have hc2 : Chg w ((((w.drewN (q1 + q2 + 1)).setCell ⟨gd, i, none⟩ (.int .i64 (-1))).drew).setCell ⟨gd, i, none⟩ (.int .i64 c)) (fun k => k = gd) := hc1.drew.setCell (p := ⟨gd, i, none⟩) (.inl rfl) _
        have hm2 := map_keep hmap (hc2.block gm hmap.lt hgdm)
        have ho2 := OwnI.set_ ho1.drew hinp c
        rw [List.set_set] at ho2
        go_region
        go_wp2_with (at_mapUpdate; refine wpList_mapUpdate_own _ rfl _ _ _ 52 rfl 61 3 law32 Try.underlying52 (plainElem Try.prog 3) gm nm Dm rfl hm2 hmax _ _ _ rfl rfl (key32 hHb) _ [] (plainElem_int Try.underlying3 hpw) ?_; intro w5 hown5 hgrow5)
        go_returns
        obtain ⟨r1, r2⟩ := HENT.out _ w5 hc2 (by rw [hwas.out, HSET.out]; exact ho2) hgrow5 hown5
        exact ⟨rfl, ⟨_, _, by rw [hA3.out]; exact r1⟩, by rw [hA3.out]; exact r2⟩
end
end Go.Proofs.Ytlnmicocmbdbdaa
