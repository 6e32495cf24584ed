/-
  The walks of the finder's pass and next.
-/
import Derived.Test.YtlnmicocmbdbdaaFndC
namespace Go.Proofs.Ytlnmicocmbdbdaa
open Go.RowKit Go.Maps
set_option linter.unusedVariables false

theorem pass_succ (e : Eff) (n : Nat) (st : FSt) : passF e (n + 1) st = moved (enterF e (passF e n st) (passF e n st).at_) := by
  induction n generalizing st with
  | zero => rfl
  | succ n ih => rw [passF, ih]; rfl
section
variable {w w' w1 w2 : World} {b0 g b n c gm nm np cp : Nat} {e : Eff} {st : FSt} {A Ap : Option Addr} {Dm : DataW Unit}
theorem FndC.moved (h : FndC w b0 g e st (st.at_ + 1) A n c gm nm Dm Ap np cp) {T : Int} (hT : T = (st.at_ : Int) + 1) :
    FndC (w.setCell ⟨g, 5, none⟩ (.int .i64 T)) b0 g e (moved st) (st.at_ + 1) A n c gm nm Dm Ap np cp ∧ Chg w (w.setCell ⟨g, 5, none⟩ (.int .i64 T)) (FF A gm Ap g) := by
  subst hT
  have hc : Chg w (w.setCell ⟨g, 5, none⟩ (.int .i64 ((st.at_ : Int) + 1))) (fun k => k = g) := (Chg.refl w (fun k => k = g)).setCell (p := ⟨g, 5, none⟩) (.inl rfl) _
  refine ⟨⟨(h.cell.set_ (i := 5) (by omega) _).congr fun i hi => ?_, h.lo, hc.ownI h.own fun q hq e => h.d1 (by rw [hq, e]), hc.ownI h.ownp fun q hq e => h.d2 (by rw [hq, e]), map_keep h.map (hc.block gm h.map.lt h.d3), h.rep, h.glo, h.nmb, h.d1, h.d2, h.d3, h.d4, h.d5, h.d6, h.ok.moved, h.by_, h.eb, h.big⟩, hc.more fun k hk => .inl hk⟩
  obtain rfl | rfl | rfl | rfl | rfl | rfl | rfl | rfl : i = 0 ∨ i = 1 ∨ i = 2 ∨ i = 3 ∨ i = 4 ∨ i = 5 ∨ i = 6 ∨ i = 7 := by omega
  all_goals rfl
def PassRel (w : World) (b0 g : Nat) (e : Eff) (st : FSt) (A : Option Addr) (n c gm : Nat) (Ap : Option Addr) (np cp N : Nat) (i : Value) (wr : World) : Prop :=
  ∃ (k nm : Nat) (Dm : DataW Unit), k ≤ N ∧ i = .int .i64 k ∧ FndC wr b0 g e (passF e k st) (st.at_ + k) A n c gm nm Dm Ap np cp ∧ Chg w wr (FF A gm Ap g)
set_option maxRecDepth 100000 in
set_option maxHeartbeats 4000000 in
theorem pass_any (N : Nat) (h : FndC w b0 g e st st.at_ A n c gm nm Dm Ap np cp) (hN : st.at_ + N ≤ st.D.length) :
    Calls Try.prog 23 #[.pointer (some ⟨g, 0, none⟩), .int .i64 N] w (EnterPost w b0 g e (passF e N st) (st.at_ + N) A n c gm Ap np cp) := by
  have hst : PassRel w b0 g e st A n c gm Ap np cp N (.int .i64 0) w := ⟨0, nm, Dm, Nat.zero_le _, rfl, h, Chg.refl w _⟩
  have hok := h.ok
  have hbig := h.big
  have HOK := Lib.hid hok
  go_enter Try.func23, Try.ntmps23
  go_wp2_with fail
  go_loopw [5] (PassRel w b0 g e st A n c gm Ap np cp N) (fun i _ => N - (intOf i).toNat)
  case atStart => exact hst
  case round =>
    clear hst hok
    obtain ⟨k, nm', Dm', hk, rfl, hf, hc⟩ := hrel
    by_cases hlt : k < N
    · have hkI : (k : Int) < (N : Int) ∧ (0 : Int) ≤ k ∧ (k : Int) ≤ 100000000000 := by omega
      obtain ⟨-, r2, r3, r4⟩ := pass_ok (e := e) (n := k) HOK.out (by omega)
      have hat : (passF e k st).at_ = st.at_ + k := r3
      have hs : Hid (passF e (k + 1) st = moved (enterF e (passF e k st) (st.at_ + k))) := by show _ = _; rw [pass_succ, r3]
      have hbase : (passF e k st).base ≤ st.at_ + k := by rw [r4]; have := HOK.out.lo; omega
      have hen := enter_any (st.at_ + k) hf hbase (by rw [r2]; omega)
      obtain ⟨-, -, -, -, -, c5, -, -⟩ := ff_c hf
      rw [hat] at c5
      obtain ⟨T, hT⟩ : ∃ T, st.at_ + k = T := ⟨_, rfl⟩
      have hT2 : Hid (st.at_ + (k + 1) = T + 1) := by show _ = _; omega
      have hTI : (0 : Int) ≤ T ∧ (T : Int) ≤ 100000000000 := by omega
      rw [hT] at hen c5 hs
      have hat2 : Hid ((enterF e (passF e k st) T).at_ = T) := by show _ = _; rw [(enter_D e _ _).2.1, hat, hT]
      clear hat hT r2 r3 r4 hbase hN
      go_wp2_with fail
      refine hen.mono ?_
      rintro r w5 ⟨rfl, ⟨nm5, Dm5, hf5⟩, hc5⟩
      obtain ⟨-, -, -, -, -, c5b, -, -⟩ := ff_c hf5
      have z5 := hf5.cell.frozen' (i := 5) (by omega)
      rw [hat2.out] at c5b
      have hf5' : FndC w5 b0 g e (enterF e (passF e k st) T) ((enterF e (passF e k st) T).at_ + 1) A n c gm nm5 Dm5 Ap np cp := by rw [hat2.out]; exact hf5
      obtain ⟨hf6, hc6⟩ := hf5'.moved (T := (T : Int) + 1) (by rw [hat2.out])
      rw [hat2.out] at hf6
      have hrel2 : PassRel w b0 g e st A n c gm Ap np cp N (.int .i64 ((k : Int) + 1)) (w5.setCell ⟨g, 5, none⟩ (.int .i64 ((T : Int) + 1))) :=
        ⟨k + 1, nm5, Dm5, hlt, by go_num, by rw [hs.out, hT2.out]; exact hf6, (hc.trans hc5 fun q hq => .inl hq).trans hc6 fun q hq => .inl hq⟩
      clear hf5 hf6 hc5 hc6 hf5'
      go_wp2_with fail
      go_roundw
      case rel => exact hrel2
      case measure => simp [intOf]; omega
    · obtain rfl : k = N := by omega
      go_wp2_with fail
      go_returns
      exact ⟨rfl, ⟨_, _, hf⟩, hc⟩
end
end Go.Proofs.Ytlnmicocmbdbdaa
