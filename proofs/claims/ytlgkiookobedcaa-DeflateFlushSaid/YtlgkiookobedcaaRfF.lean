/-
  The walk of the reference's Inflate.
-/
import Derived.Test.YtlgkiookobedcaaPk28
import Derived.Test.YtlgkiookobedcaaRfD
import Derived.Test.YtlgkiookobedcaaRfE
import Derived.Test.YtlgkiookobedcaaPk10
import Derived.Test.YtlgkiookobedcaaStep
import Derived.Test.YtlgkiookobedcaaPk11
import Derived.Test.YtlgkiookobedcaaPk3
import Derived.Deep.CutBlock
import Derived.BigRegion
import Derived.Deep.DeepCutAuto
import Derived.Deep.DeepMust
namespace Go.Proofs.Ytlgkiookobedcaa
open Go.RowKit
set_option linter.unusedVariables false
section
variable {w w' w0 w2 : World} {b0 g : Nat} {c c0 : Nat → Nat} {R R' : RM} {s t t' : IS} {v : Int}
theorem IS.step_kinds (s : IS) : (s.step.1.kinds = s.kinds ∧ s.step.1.last = s.last) ∨ s.step.1.kinds.length = s.kinds.length + 1 := by
  have hov : ∀ s : IS, s.over.kinds = s.kinds ∧ s.over.last = s.last := fun s => by unfold IS.over; split <;> exact ⟨rfl, rfl⟩
  have hem : ∀ (s : IS) b, (s.emit b).1.kinds = s.kinds ∧ (s.emit b).1.last = s.last := fun s b => ⟨rfl, rfl⟩
  unfold IS.step
  split
  · unfold IS.block
    split
    · exact .inl ⟨rfl, rfl⟩
    · split
      · exact .inr (by simp)
      · split
        · exact .inr (by simp)
        · split
          · exact .inr (by simp)
          · exact .inr (by simp)
  split
  · unfold IS.size
    split
    · exact .inl ⟨rfl, rfl⟩
    · split <;> exact .inl ⟨rfl, rfl⟩
  split
  · unfold IS.stored
    split
    · exact .inl (hov s)
    · split
      · exact .inl ⟨rfl, rfl⟩
      · exact .inl ⟨rfl, rfl⟩
  split
  · unfold IS.sizes
    split
    · exact .inl ⟨rfl, rfl⟩
    · split <;> exact .inl ⟨rfl, rfl⟩
  split
  · unfold IS.heads
    split
    · split <;> exact .inl ⟨rfl, rfl⟩
    · split <;> exact .inl ⟨rfl, rfl⟩
  split
  · unfold IS.lengths IS.length IS.repeat_
    repeat' split
    all_goals exact .inl ⟨rfl, rfl⟩
  split
  · unfold IS.token
    split
    · exact .inl ⟨rfl, rfl⟩
    · split
      · exact .inl ⟨rfl, rfl⟩
      · split
        · exact .inl (hov _)
        · repeat' split
          all_goals exact .inl ⟨rfl, rfl⟩
  split
  · unfold IS.dist IS.text
    repeat' split
    all_goals exact .inl ⟨rfl, rfl⟩
  · exact .inl ⟨rfl, rfl⟩
theorem IS.Steps.last (h : IS.Steps s t) : s.kinds.length ≤ t.kinds.length ∧ (t.kinds.length = s.kinds.length → t.last = s.last) := by
  induction h with
  | refl => exact ⟨Nat.le_refl _, fun _ => rfl⟩
  | @tail t h1 h2 ih =>
    rcases IS.step_kinds t with ⟨e1, e2⟩ | e1
    · rw [e1, e2]; exact ih
    · rw [e1]; exact ⟨by omega, fun e => by omega⟩
theorem IS.fin_eight (h : s.st = 8) : s.fin = (s, 8) := by
  have e : s.step = (s, 8) := by unfold IS.step; rw [h]; rfl
  rw [IS.fin_stop (by rw [e]; simp), e]
def InfRef (w : World) (F : IS × Int) (b : List Int) (e : Ending) (w' : World) : Prop :=
  ∃ g c R, e = .returned (.pointer (some ⟨g, 0, none⟩)) ∧ RefM w' w.heap.size g c R ∧ Below w.heap.size w w' ∧ R.E = endE F ∧ R.out = F.1.all ∧ R.kinds = F.1.kinds ∧ R.stops = F.1.stops ∧ R.toks = F.1.toks ∧ (F.2 = 8 → R.rest = ((b.length - F.1.x.length / 8 : Nat) : Int))
def InR (w : World) (g : Nat) (b : List Int) (m : Nat) (k : Nat) (wr : World) : Prop :=
  ∃ R s c', RefM wr w.heap.size g c' R ∧ Below w.heap.size w wr ∧ RLive R s ∧ s.Ok ∧ s.st = 0 ∧ IS.Steps (start (bts b) m) s ∧ Hid (k = s.mu) ∧ 3 * R.kinds.length ≤ R.at_ ∧ R.stops.length ≤ R.kinds.length ∧ R.X = bts b
def InB (w : World) (g : Nat) (b : List Int) (m : Nat) (s0 : IS) (V : Nat) (v7 : Value) (wx : World) : Prop :=
  (v7 = .bool true ∧ ∃ R' c' t x', RefM wx w.heap.size g c' R' ∧ Below w.heap.size w wx ∧ IS.Steps s0 t ∧ t.step = (({ t with x := x' } : IS).over, 0) ∧ RLive R' { t with x := x' } ∧ t.Ok ∧ t.last = decide (V % 2 = 1) ∧ 3 * R'.kinds.length ≤ R'.at_ ∧ R'.stops.length + 1 ≤ R'.kinds.length ∧ R'.X = bts b) ∨
  (v7 = .bool false ∧ ∃ R' c' t v, RefM wx w.heap.size g c' R' ∧ Below w.heap.size w wx ∧ s0.fin = (t, v) ∧ v ≠ 8 ∧ REnd R' t v)
theorem InB.of {V : Nat} {b : List Int} {m : Nat} {s0 s1 : IS} {R1 : RM} {c1 : Nat → Nat} {w1 wx : World} {bo : Bool} (hM : RefM w1 w.heap.size g c1 R1) (hb : Below w.heap.size w w1) (hs : IS.Steps s0 s1) (hO : s1.Ok) (hl : s1.last = decide (V % 2 = 1)) (hk : R1.kinds = s1.kinds) (h3 : 3 * R1.kinds.length ≤ R1.at_) (hst : R1.stops.length + 1 ≤ R1.kinds.length) (hX : R1.X = bts b)
    (h : BlkPost w1 c1 w.heap.size g R1 s1 (.returned (.bool bo)) wx) : InB w g b m s0 V (.bool bo) wx := by
  rcases h with ⟨R', t, x', e, ⟨c', hM', hD'⟩, hs1, hstep, hL, hK⟩ | ⟨R', t, v, e, ⟨c', hM', hD'⟩, hf, h8, hE⟩
  · injection e with e; injection e with e; subst e
    refine .inl ⟨rfl, R', c', t, x', hM', hb.trans hD'.1, hs.trans hs1, hstep, hL, hO.steps hs1, ?_, ?_, ?_, hK.X.trans hX⟩
    · rw [← hl]
      refine hs1.last.2 ?_
      have h1 : R'.kinds = t.kinds := hL.kinds
      rw [← h1, hK.kinds, hk]
    · rw [hK.kinds]; exact Nat.le_trans h3 hK.le
    · rw [hK.kinds, hK.stops]; exact hst
  · injection e with e; injection e with e; subst e
    exact .inr ⟨rfl, R', c', t, v, hM', hb.trans hD'.1, by rw [← hs.fin_eq]; exact hf, h8, hE⟩
theorem InfRef.bad {m : Nat} {b : List Int} {F : IS × Int} (hF : (start (bts b) m).fin = F) (hs : IS.Steps (start (bts b) m) s) (h : s.fin = (t, v)) (h8 : v ≠ 8) (hM : RefM w' w.heap.size g c R) (hb : Below w.heap.size w w') (hE : REnd R t v) : InfRef w F b (.returned (.pointer (some ⟨g, 0, none⟩))) w' := by
  have e : F = (t, v) := by rw [← hF, ← hs.fin_eq, h]
  subst e
  exact ⟨g, c, R, rfl, hM, hb, by unfold endE; rw [if_neg h8]; exact hE.E, hE.out, hE.kinds, hE.stops, hE.toks, fun e => absurd e h8⟩
theorem bts_even (b : List Int) : (bts b).length % 8 = 0 := by rw [bts_length]; omega
def R0 (Ab : Option Addr) (nb cb : Nat) (b : List Int) (v : Int) : RM := ⟨none, 0, 0, [], 0, 0, none, 0, 0, [], none, 0, 0, [], Ab, nb, cb, bts b, 0, v, .slice none 0 0, .slice none 0 0, .slice none 0 0, .slice none 0 0, none, 0, 0, []⟩
theorem ref0 {w1 : World} {b0 : Nat} {Ab : Option Addr} {nb cb : Nat} {b : List Int} (v : Int) (ho : OwnI .u8 w1 b0 5 Ab nb cb (bts b)) (hb : b0 ≤ w1.heap.size) :
    ∃ c, RefM (w1.alloc (.cells #[.slice none 0 0, .int .i64 0, .int .i64 0, .slice none 0 0, .slice none 0 0, .slice Ab nb cb, .int .i64 0, .int .i64 v, .slice none 0 0, .slice none 0 0, .slice none 0 0, .slice none 0 0, .slice none 0 0] 36)) b0 w1.heap.size c (R0 Ab nb cb b v) := by
  have hoL : ∀ k, blkOf Ab = some k → b0 ≤ k ∧ k < w1.heap.size := fun k hk => ho.2.lt hk
  refine ⟨fun k => if k = w1.heap.size then 1 else if blkOf Ab = some k then 6 else 0, Ar.new w1 _ _ rfl (all13 rfl rfl rfl rfl rfl rfl rfl rfl rfl rfl rfl rfl rfl), if_pos rfl, OwnI.nil_, fun k hk => by simp [blkOf, R0] at hk, OwnI.nil_, fun k hk => by simp [blkOf, R0] at hk, OwnI.nil_, fun k hk => by simp [blkOf, R0] at hk, ⟨rfl, Own.nil_⟩, fun k hk => by simp [blkOf, R0] at hk, ho.alloc _, fun k hk => ?_, fun k hk => ?_⟩
  · have := hoL k hk
    show (if _ then _ else _) = 6
    rw [if_neg (by omega), if_pos (show blkOf Ab = some k from hk)]
  · rw [heap_alloc_size]
    split at hk
    · omega
    · split at hk
      · rename_i h1 h2
        have := hoL k h2; omega
      · exact absurd rfl hk
theorem inr0 {w3 : World} {Ab : Option Addr} {nb cb : Nat} {b : List Int} {m : Nat} (hM : RefM w3 w.heap.size g c (R0 Ab nb cb b m)) (hb : Below w.heap.size w w3) (hlen : b.length ≤ 10000000000) (hmb : m ≤ 1000000000) : InR w g b m (start (bts b) m).mu w3 :=
  ⟨R0 Ab nb cb b m, start (bts b) m, c, hM, hb, ⟨rfl, Nat.zero_le _, rfl, rfl, rfl, rfl, by show (m : Int) = (([] : List Int).length + m : Nat); simp, rfl, Bit.bts b, by show (bts b).length ≤ _; rw [bts_length]; omega, bts_even b, by show ([] : List Int).length + m ≤ _; simp; omega, Nat.zero_le _⟩, .start (Bit.bts b) m, rfl, .refl _, rfl, Nat.zero_le _, Nat.le_refl _, rfl⟩
set_option maxRecDepth 100000 in
set_option maxHeartbeats 8000000 in
theorem rinflate_any (w : World) (Bd : Nat) (A : Option Addr) (n cp : Nat) (b : List Int) (hr : RdI .u8 w Bd A n b) (hBd : Bd ≤ w.heap.size) (hby : ∀ x ∈ b, 0 ≤ x ∧ x < 256) (hlen : b.length ≤ 10000000000) (most : Int) (m : Nat) (hm : (m : Int) = max most 0) (hmb : m ≤ 1000000000) (F : IS × Int) (hF : (start (bts b) m).fin = F) :
    Calls Try.prog 9 #[.slice A n cp, .int .i64 most] w (InfRef w F b) := by
  obtain ⟨i0, hi, hz0, hz1, hz2⟩ := info_parts xint_info
  have Hi := Lib.hid hi
  have Hz0 := Lib.hid hz0
  have Hz1 := Lib.hid hz1
  have Hz2 := Lib.hid hz2
  have HM := Lib.hid hm
  have HF := Lib.hid hF
  have hnb : n = b.length := hr.1
  have hbits := bits_any w Bd n cp A b hr hBd hby (by omega)
  have HB := Lib.hid hbits
  have HNB := Lib.hid hnb
  have hcs : (most < 0 ∧ m = 0) ∨ (0 ≤ most ∧ (m : Int) = most) := by omega
  clear hi hz0 hz1 hz2 hm hF hbits hnb hr
  have HCS := Lib.hid hcs
  clear hcs
  go_enter Try.func9, Try.ntmps9
  go_wp2_with fail
  refine HB.out.mono ?_
  rintro e w1 ⟨Ab, nb, cb, rfl, ho1, hb1⟩
  have hs1 := hb1.size
  obtain ⟨c1, hM1⟩ := ref0 most ho1 hs1
  have hb2 := hb1.alloc hs1 (.cells #[.slice none 0 0, .int .i64 0, .int .i64 0, .slice none 0 0, .slice none 0 0, .slice Ab nb cb, .int .i64 0, .int .i64 most, .slice none 0 0, .slice none 0 0, .slice none 0 0, .slice none 0 0, .slice none 0 0] 36)
  obtain ⟨gs, hgs⟩ : ∃ gs, w1.heap.size = gs := ⟨_, rfl⟩
  rw [hgs] at hM1
  have HGS := Lib.hid hgs
  have hini : Hid (∃ k, ((most < 0 → InR w gs b m k ((w1.alloc (.cells #[.slice none 0 0, .int .i64 0, .int .i64 0, .slice none 0 0, .slice none 0 0, .slice Ab nb cb, .int .i64 0, .int .i64 most, .slice none 0 0, .slice none 0 0, .slice none 0 0, .slice none 0 0, .slice none 0 0] 36)).setCell ⟨gs, 7, none⟩ (.int .i64 0))) ∧ (0 ≤ most → InR w gs b m k (w1.alloc (.cells #[.slice none 0 0, .int .i64 0, .int .i64 0, .slice none 0 0, .slice none 0 0, .slice Ab nb cb, .int .i64 0, .int .i64 most, .slice none 0 0, .slice none 0 0, .slice none 0 0, .slice none 0 0, .slice none 0 0] 36))))) := by
    refine ⟨(start (bts b) m).mu, fun h => ?_, fun h => ?_⟩
    · have hm0 : m = 0 := by rcases HCS.out with ⟨_, h1⟩ | ⟨h1, _⟩ <;> omega
      subst hm0
      exact inr0 (hM1.put (i := 7) (by omega) (.int .i64 0) (R0 Ab nb cb b 0) (all13 rfl rfl rfl rfl rfl rfl rfl rfl rfl rfl rfl rfl rfl) rfl) (hb2.setCell (p := ⟨gs, 7, none⟩) (by show w.heap.size ≤ gs; omega) _) hlen hmb
    · have hm0 : (m : Int) = most := by rcases HCS.out with ⟨h1, _⟩ | ⟨_, h1⟩ <;> omega
      rw [← hm0]
      rw [← hm0] at hM1 hb2
      exact inr0 hM1 hb2 hlen hmb
  obtain ⟨k0, hini⟩ := hini.out
  have HINI := Lib.hid hini
  have k7 := hM1.cell.cell (i := 7) (by omega)
  have z7 := hM1.cell.frozen' (i := 7) (by omega)
  clear hini hM1 hb2 ho1 hb1 hs1 hgs
  go_upto_if 15 with fail
  rw [HGS.out]
  go_cut [] (fun wx => InR w gs b m k0 wx)
  case first =>
    by_cases hneg : most < 0
    · have HI := Lib.hid (HINI.out.1 hneg)
      clear HINI
      go_wp2_with fail
      go_meet
      exact HI.out
    · have hneg2 : 0 ≤ most := by omega
      have HI := Lib.hid (HINI.out.2 hneg2)
      clear HINI
      go_wp2_with fail
      go_meet
      exact HI.out
  case rest =>
    clear k7 z7 HINI
    have HIN := Lib.hid hcut
    clear hcut
    go_wp2_with fail
    go_loopg [] k0 (InR w gs b m)
    case atStart => exact HIN.out
    case round =>
      clear HIN
      obtain ⟨R, s, c', hM, hb, hL, hO, hst, hs, hk, hkn, hsn, hX⟩ := hrel
      have hle := hL.le
      have hlx : s.x.length = R.X.length - R.at_ := by rw [← hL.x, List.length_drop]
      have hlenX : R.X.length ≤ 100000000000 := hL.len
      have hstep : Hid (s.step = s.block) := by show _ = _; unfold IS.step; rw [if_pos hst]
      unfold IS.block at hstep
      by_cases hx3 : s.x.length < 3
      · have hs2 : Hid (s.fin = (s, 5)) := by
          have e := hstep.out.trans (if_pos hx3)
          show _ = _
          rw [IS.fin_stop (by rw [e]; simp), e]
        have ht := Lib.hid (rtake_not hM.refl 3 (by omega) (by omega) hle (by omega))
        clear hx3 hlx hstep hst
        go_wp2_with fail
        refine ht.out.mono ?_
        rintro e w6 ⟨rfl, c6, hM6, hD6⟩
        go_wp2_with fail
        go_ret
        exact InfRef.bad HF.out hs hs2.out (by decide) hM6 (hb.trans hD6.1) ⟨hL.out, hL.kinds, hL.stops, hL.toks, rfl⟩
      · have hst1 := Lib.hid (hstep.out.trans (if_neg hx3))
        have hvl := num_lt hO.bit 3
        obtain ⟨V, hV⟩ : ∃ V, num s.x 3 = V := ⟨_, rfl⟩
        have ht := Lib.hid (rtake_ok hM.refl 3 (by omega) (by omega) hL.bit (by omega) (V : Int) (by rw [hL.x, hV]))
        rw [hV] at hvl hst1
        have hV8 : V < 8 := by have : (2 : Nat) ^ 3 = 8 := (by decide); omega
        obtain ⟨Kd, hKd⟩ : ∃ Kd, V / 2 = Kd := ⟨_, rfl⟩
        rw [hKd] at hst1
        have hKi : (V : Int) / 2 = (Kd : Int) := by omega
        have hVI : (0 : Int) ≤ V ∧ (V : Int) < 8 ∧ (0 : Int) ≤ Kd ∧ (Kd : Int) < 4 := by omega
        have hx3d : Hid (R.X.drop (R.at_ + 3) = s.x.drop 3) := by show _ = _; rw [← hL.x, List.drop_drop]
        have hat3 : Hid (R.at_ + 3 ≤ R.X.length) := by show _ ≤ _; omega
        have hKD := Lib.hid hKd
        clear hx3 hlx hstep hvl hV hKd
        go_wp2_with fail
        refine ht.out.mono ?_
        rintro e w6 ⟨rfl, h6⟩
        have hnk : R.nk = R.kinds.length := hM.kinds.1
        have hnkb : R.nk + 1 ≤ 1000000000000 := by omega
        have hap := h6.apart.2.1
        have hgr := h6.cell.lt
        have hlo6 := h6.lo
        have k3 := h6.cell.cell (i := 3) (by omega)
        rw [show sF { R with at_ := R.at_ + 3 } 3 = .slice R.Ak R.nk R.ck from rfl] at k3
        have hoA := h6.kinds.alloc (.cells #[.int .i64 (Kd : Int)] 3)
        clear hnk
        go_upto_region 8 with fail
        go_cut [] (fun wx => ∃ A4 d4, RefS wr c' wx w.heap.size gs { R with at_ := R.at_ + 3, Ak := A4, nk := R.nk + 1, ck := d4, kinds := R.kinds ++ [(Kd : Int)] })
        case first =>
          go_wp2_with (at_builtin; (refine wpList_app .i64 w.heap.size 3 i0 8 rfl (.tmp 33) (.tmp 35) _ rfl Try.underlying32 Hi.out Hz0.out Hz1.out Hz2.out rfl hoA rfl (RdI.lit .i64 w6 [(Kd : Int)] 3) hnkb (by omega) (by simp; omega) ?_)
                       intro A4 d4 w4 hown4 hg4 hat4
                       have har4 := (h6.cell.alloc (.cells #[.int .i64 (Kd : Int)] 3)).grown hg4 (fun e => hap e.symm)
                       have x3 := har4.cell (i := 3) (by omega)
                       have z3 := har4.frozen' (i := 3) (by omega))
          go_meet
          have hne : blkOf A4 ≠ some gs := by
            rcases hat4 with e | e
            · rw [e]; exact hap
            · rw [e]; intro e2; injection e2 with e2; simp at e2; omega
          have h7 := h6.nkinds (A' := A4) (n' := R.nk + 1) (c' := d4) (l' := R.kinds ++ [(Kd : Int)]) ((((Chg.refl w6 _).alloc _).grown hg4 (fun q hq => .inl (.inr hq))).setCell (p := ⟨gs, 3, none⟩) (.inl (.inl rfl)) (.slice A4 (R.nk + 1) d4)) ((har4.set_ (i := 3) (by omega) _).congr (all13 rfl rfl rfl rfl rfl rfl rfl rfl rfl rfl rfl rfl rfl)) (hown4.far (p := ⟨gs, 3, none⟩) hne _) (fun k hk => by
            rcases hat4 with e | e
            · left; rw [← e]; exact hk
            · rw [e] at hk; injection hk with hk; right; first | (simp at hk; omega) | omega)
          exact ⟨A4, d4, h7⟩
        case rest =>
          obtain ⟨A4, d4, c4, hM4, hD4⟩ := hcut
          have hb4 := hb.trans hD4.1
          clear h6 k3 hoA hap
          have hRL : ∀ (s1 : IS), s1.x = s.x.drop 3 → s1.all = s.all → s1.rem = s.rem → s1.kinds = s.kinds ++ [(Kd : Int)] → s1.stops = s.stops → s1.toks = s.toks → RLive { R with at_ := R.at_ + 3, Ak := A4, nk := R.nk + 1, ck := d4, kinds := R.kinds ++ [(Kd : Int)] } s1 := fun s1 a1 a2 a3 a4 a5 a6 => ⟨by rw [a1]; exact hx3d.out, hat3.out, by rw [a2]; exact hL.out, by rw [a4]; show R.kinds ++ _ = _; rw [hL.kinds], by rw [a5]; exact hL.stops, by rw [a6]; exact hL.toks, by rw [a2, a3]; exact hL.most, hL.E, hL.bit, hL.len, hL.even, by rw [a2, a3]; exact hL.small, Nat.le_trans hL.tk (by show R.at_ ≤ R.at_ + 3; omega)⟩
          have hk4 : 3 * (R.kinds ++ [(Kd : Int)]).length ≤ R.at_ + 3 := by rw [List.length_append]; simp; omega
          have hs4 : R.stops.length + 1 ≤ (R.kinds ++ [(Kd : Int)]).length := by rw [List.length_append]; simp; omega
          have HRL := Lib.hid hRL
          have HST := Lib.hid hst
          clear hRL hst
          go_upto_block 2 with fail
          go_cut [7] (fun s7 wx => InB w gs b m s V s7 wx)
          case first =>
            obtain hK0 | hK1 | hK2 | hK3 : Kd = 0 ∨ Kd = 1 ∨ Kd = 2 ∨ Kd = 3 := by omega
            · subst hK0
              have hs1 := hst1.out.trans (if_pos rfl)
              have hS1 : IS.Steps s s.step.1 := .tail (.refl _) (by rw [hs1])
              rw [hs1] at hS1
              have hO1 := hO.steps hS1
              have hcall := rstored_any hM4.refl hO1 rfl (by show algn (R.X.drop (R.at_ + 3)) = algn (s.x.drop 3); rw [hx3d.out]) (HRL.out _ hx3d.out rfl rfl rfl rfl rfl)
              have HC := Lib.hid hcall
              have HB4 := Lib.hid (fun (bo : Bool) wx h => InB.of (b := b) (m := m) (V := V) (bo := bo) (wx := wx) hM4 hb4 hS1 hO1 rfl (by show R.kinds ++ _ = s.kinds ++ _; rw [hL.kinds]) hk4 hs4 hX h)
              clear hcall hs1 hS1 hO1 hst1
              go_wp2_with fail
              refine HC.out.mono ?_
              rintro e w7 h
              obtain ⟨bo, rfl⟩ : ∃ bo, e = .returned (.bool bo) := by
                rcases h with ⟨_, _, _, e1, _⟩ | ⟨_, _, _, e1, _⟩
                · exact ⟨_, e1⟩
                · exact ⟨_, e1⟩
              have HQ := Lib.hid (HB4.out bo _ h)
              clear h HB4 HC
              go_wp2_with fail
              go_meet
              exact HQ.out
            · subst hK1
              obtain ⟨s1, hs1, hx1, ha1, hr1, hk1, ht1, hto1, h61, hlt1, hds1, hla1⟩ : ∃ s1 : IS, s.step = (s1, 0) ∧ s1.x = s.x.drop 3 ∧ s1.all = s.all ∧ s1.rem = s.rem ∧ s1.kinds = s.kinds ++ [((1 : Nat) : Int)] ∧ s1.stops = s.stops ∧ s1.toks = s.toks ∧ s1.st = 6 ∧ s1.lt = fixL ∧ s1.ds = fixD ∧ s1.last = decide (V % 2 = 1) :=
                ⟨_, hst1.out.trans ((if_neg (by decide)).trans (if_pos rfl)), rfl, rfl, rfl, rfl, rfl, rfl, rfl, rfl, rfl, rfl⟩
              have hS1 : IS.Steps s s.step.1 := .tail (.refl _) (by rw [hs1])
              rw [hs1] at hS1
              have hO1 := hO.steps hS1
              have hL1 := HRL.out s1 hx1 ha1 hr1 hk1 ht1 hto1
              have hcbs : ∀ q, c4 q ≠ 0 → w.heap.size ≤ q ∧ q < wc.heap.size := fun q hq => hM4.cb q hq
              have hgw := (hcbs gs (by rw [hM4.cg]; decide)).1
              have hFX := Lib.hid (rfixed_any hM4)
              have HS1 := Lib.hid hS1
              have HO1 := Lib.hid hO1
              have HL1 := Lib.hid hL1
              have HH := Lib.hid (⟨hlt1, hds1, h61, hk1, hla1⟩ : s1.lt = fixL ∧ s1.ds = fixD ∧ s1.st = 6 ∧ s1.kinds = s.kinds ++ [((1 : Nat) : Int)] ∧ s1.last = decide (V % 2 = 1))
              have HCB := Lib.hid hcbs
              clear hs1 hS1 hO1 hst1 hL1 hx1 ha1 hr1 hk1 ht1 hto1 h61 hlt1 hds1 hla1 hcbs HRL hM4 hD4
              go_wp2_with fail
              refine hFX.out.mono ?_
              rintro e w7 ⟨A1, d1, A2, d2, rfl, hM7, hC7, ho1, ho2⟩
              have hb7 : Below w.heap.size w w7 := hb4.trans (hC7.below (fun k hk => by rw [hk]; exact hgw) hb4.size)
              have hu : ∀ {A : Option Addr} {n d : Nat} {l : List Int}, OwnI .i64 w7 wc.heap.size 3 A n d l → 0 < n → ∀ ad, A = some ad → c4 ad.block = 0 := by
                intro A n d l ho h0 ad e
                have := (ho.2.lt (g := ad.block) (by rw [e]; rfl)).1
                by_cases e2 : c4 ad.block = 0
                · exact e2
                · have := (HCB.out _ e2).2; omega
              obtain ⟨hlt1, hds1, h61, hk1, hla1⟩ := HH.out
              have hL1 := HL1.out
              have hL7 : RLive { R with at_ := R.at_ + 3, Ak := A4, nk := R.nk + 1, ck := d4, kinds := R.kinds ++ [((1 : Nat) : Int)], Al := .slice A1 288 d1, Ad := .slice A2 32 d2 } s1 := ⟨hL1.x, hL1.le, hL1.out, hL1.kinds, hL1.stops, hL1.toks, hL1.most, hL1.E, hL1.bit, hL1.len, hL1.even, hL1.small, hL1.tk⟩
              have HT := Lib.hid (rtokens_any hM7 hL7 HO1.out h61 A1 A2 288 d1 32 d2 rfl rfl (by rw [hlt1]; exact ho1.rd) (by rw [hds1]; exact ho2.rd) (hu ho1) (hu ho2))
              have HB4 := Lib.hid (fun (bo : Bool) wx h => InB.of (b := b) (m := m) (V := V) (bo := bo) (wx := wx) hM7 hb7 HS1.out HO1.out hla1 (by show R.kinds ++ _ = s1.kinds; rw [hk1, hL.kinds]) hk4 hs4 hX h)
              clear hL7 hL1 hlt1 hds1 h61 hk1 hla1 hu hM7 hC7 ho1 ho2
              go_wp2_with fail
              refine HT.out.mono ?_
              rintro e w8 h
              obtain ⟨bo, rfl⟩ : ∃ bo, e = .returned (.bool bo) := by
                rcases h with ⟨_, _, _, e1, _⟩ | ⟨_, _, _, e1, _⟩
                · exact ⟨_, e1⟩
                · exact ⟨_, e1⟩
              have HQ := Lib.hid (HB4.out bo _ h)
              clear h HB4 HT
              go_wp2_with fail
              go_meet
              exact HQ.out
            · subst hK2
              obtain ⟨s1, hs1, hx1, ha1, hr1, hk1, ht1, hto1, h31, hla1⟩ : ∃ s1 : IS, s.step = (s1, 0) ∧ s1.x = s.x.drop 3 ∧ s1.all = s.all ∧ s1.rem = s.rem ∧ s1.kinds = s.kinds ++ [((2 : Nat) : Int)] ∧ s1.stops = s.stops ∧ s1.toks = s.toks ∧ s1.st = 3 ∧ s1.last = decide (V % 2 = 1) :=
                ⟨_, hst1.out.trans ((if_neg (by decide)).trans ((if_neg (by decide)).trans (if_pos rfl))), rfl, rfl, rfl, rfl, rfl, rfl, rfl, rfl⟩
              have hS1 : IS.Steps s s.step.1 := .tail (.refl _) (by rw [hs1])
              rw [hs1] at hS1
              have hO1 := hO.steps hS1
              have hL1 := HRL.out s1 hx1 ha1 hr1 hk1 ht1 hto1
              have HDY := Lib.hid (rdynamic_any hM4 hL1 hO1 h31)
              have HS1 := Lib.hid hS1
              have HH := Lib.hid (⟨hk1.trans (by rw [← hL.kinds]), hla1⟩ : s1.kinds = R.kinds ++ [((2 : Nat) : Int)] ∧ s1.last = decide (V % 2 = 1))
              clear hs1 hS1 hO1 hst1 hL1 hx1 ha1 hr1 hk1 ht1 hto1 h31 hla1 HRL hM4 hD4
              go_wp2_with fail
              refine HDY.out.mono ?_
              rintro e w7 h
              rcases h with ⟨R7, t7, c7, Al, nl, cl, Ad, nd, cd, rfl, hM7, hD7, hS7, h67, hO7, hL7, hAl, hAd, hl7, hd7, hcl, hcd, hK7⟩ | ⟨R7, t7, v7, rfl, ⟨c7, hM7, hD7⟩, hf7, h8, hE7⟩
              · have hb7 := hb4.trans hD7.1
                have hk7 : R7.kinds = R.kinds ++ [((2 : Nat) : Int)] := hK7.kinds
                have hla7 : t7.last = decide (V % 2 = 1) := by
                  rw [← HH.out.2]
                  refine hS7.last.2 ?_
                  rw [← hL7.kinds, hk7, HH.out.1]
                have HT := Lib.hid (rtokens_any hM7 hL7 hO7 h67 Al Ad nl cl nd cd hAl hAd hl7 hd7 hcl hcd)
                have HB4 := Lib.hid (fun (bo : Bool) wx h => InB.of (b := b) (m := m) (V := V) (bo := bo) (wx := wx) hM7 hb7 (HS1.out.trans hS7) hO7 hla7 hL7.kinds (by rw [hk7]; exact Nat.le_trans hk4 hK7.le) (by rw [hk7, hK7.stops]; exact hs4) (hK7.X.trans hX) h)
                clear hM7 hD7 hS7 h67 hO7 hL7 hAl hAd hl7 hd7 hcl hcd hK7 hb7 hk7 hla7 HDY
                go_wp2_with fail
                refine HT.out.mono ?_
                rintro e w8 h
                obtain ⟨bo, rfl⟩ : ∃ bo, e = .returned (.bool bo) := by
                  rcases h with ⟨_, _, _, e1, _⟩ | ⟨_, _, _, e1, _⟩
                  · exact ⟨_, e1⟩
                  · exact ⟨_, e1⟩
                have HQ := Lib.hid (HB4.out bo _ h)
                clear h HB4 HT
                go_wp2_with fail
                go_meet
                exact HQ.out
              · have HQ : Hid (InB w gs b m s V (.bool false) w7) := .inr ⟨rfl, R7, c7, t7, v7, hM7, hb4.trans hD7.1, by rw [← HS1.out.fin_eq]; exact hf7, h8, hE7⟩
                clear hM7 hD7 hf7 h8 hE7 HDY
                go_wp2_with fail
                go_meet
                exact HQ.out
            · subst hK3
              have hs1 := hst1.out
              rw [if_neg (by decide), if_neg (by decide), if_neg (by decide)] at hs1
              have hf1 := Lib.hid ((IS.fin_stop (s := s) (by rw [hs1]; show (2 : Int) ≠ 0; decide)).trans hs1)
              have k1 := hM4.cell.cell (i := 1) (by omega)
              have z1 := hM4.cell.frozen' (i := 1) (by omega)
              clear hs1 hst1
              go_wp2_with fail
              go_meet
              exact .inr ⟨rfl, { R with at_ := R.at_ + 3, Ak := A4, nk := R.nk + 1, ck := d4, kinds := R.kinds ++ [((3 : Nat) : Int)], E := 2 }, c4, _, 2, hM4.put (i := 1) (by omega) (.int .i64 2) { R with at_ := R.at_ + 3, Ak := A4, nk := R.nk + 1, ck := d4, kinds := R.kinds ++ [((3 : Nat) : Int)], E := 2 } (all13 rfl rfl rfl rfl rfl rfl rfl rfl rfl rfl rfl rfl rfl) rfl, hb4.setCell (p := ⟨gs, 1, none⟩) (hM4.cb gs (by rw [hM4.cg]; decide)).1 _, hf1.out, by decide, ⟨hL.out, by show R.kinds ++ _ = s.kinds ++ _; rw [hL.kinds], hL.stops, hL.toks, rfl⟩⟩
          case rest =>
            clear HST hst1 HRL hM4 hD4 hL hM hX hk4 hs4 hb4 hx3d hat3 hkn hsn
            have HS := Lib.hid hs
            have HIN := Lib.hid hcut
            clear hs hcut
            rcases HIN.out with ⟨rfl, R1, c1, t, x', hM, hb1, hs1, hstep1, hL1, hO1, hla1, hk31, hsn1, hX1⟩ | ⟨rfl, R1, c1, t, v, hM, hb1, hf, h8, hE⟩
            rotate_left
            · have HQ := Lib.hid (InfRef.bad HF.out HS.out hf h8 hM hb1 hE)
              clear HIN hf h8 hM hb1 hE
              go_wp2_with fail
              go_ret
              exact HQ.out
            · have hns : R1.ns = R1.stops.length := hM.stops.1
              have hle1 := hL1.le
              have hev1 := hL1.even
              have hlx1 : R1.X.length = 8 * b.length := by rw [hX1, bts_length]
              have hnsb : R1.ns + 1 ≤ 1000000000000 := by have := hL1.len; omega
              have hno : R1.no = t.all.length := hM.out.1.trans (congrArg List.length hL1.out)
              have hap := hM.refl.apart.2.2.1
              have hgr := hM.cell.lt
              have hlo := hM.lo
              have k0 := hM.cell.cell (i := 0) (by omega)
              have k4 := hM.cell.cell (i := 4) (by omega)
              rw [show sF R1 4 = .slice R1.As R1.ns R1.cs from rfl] at k4
              rw [show sF R1 0 = .slice R1.Ao R1.no R1.co from rfl] at k0
              have hoA := (hM.stops.alloc (.cells #[.int .i64 (R1.no : Nat)] 3)).drew
              have hlit := (RdI.lit .i64 wc [((R1.no : Nat) : Int)] 3).drewN 1
              have HNO := Lib.hid hno
              clear hns hno HIN
              go_wp2_with fail
              obtain ⟨s9, hs9⟩ : ∃ s9, ({ t with x := x' } : IS).over = s9 := ⟨_, rfl⟩
              rw [hs9] at hstep1
              have hsT : IS.Steps s t.step.1 := hs1.tail (by rw [hstep1])
              have hmu9 : t.step.1.mu < t.mu := IS.mu_step (by rw [hstep1])
              rw [hstep1] at hsT hmu9
              have HMU : Hid (s9.mu < gk) := by
                have h1 := hs1.mu_le
                have h2 := hk.out
                have h3 : s9.mu < t.mu := hmu9
                show _ < _
                omega
              have hO9 := hO1.steps (IS.Steps.one (s := t) (by rw [hstep1]))
              rw [hstep1] at hO9
              have HS9 := Lib.hid (HS.out.trans hsT)
              have hkds : R1.kinds = t.kinds := hL1.kinds
              have hx1 : R1.X.drop R1.at_ = x' := hL1.x
              have hla : ({ t with x := x' } : IS).last = decide (V % 2 = 1) := hla1
              have h9a : s9.all = t.all ∧ s9.kinds = t.kinds ∧ s9.stops = t.stops ++ [(t.all.length : Int)] ∧ s9.toks = t.toks ∧ s9.rem = t.rem := by
                rw [← hs9]; unfold IS.over; split <;> exact ⟨rfl, rfl, rfl, rfl, rfl⟩
              have h9l : V % 2 = 1 → s9.x = algn x' ∧ s9.st = 8 := fun e => by
                rw [← hs9]; unfold IS.over; rw [if_pos (by rw [hla]; simpa using e)]; exact ⟨rfl, rfl⟩
              have h9n : ¬ V % 2 = 1 → s9.x = x' ∧ s9.st = 0 := fun e => by
                rw [← hs9]; unfold IS.over; rw [if_neg (by rw [hla]; simpa using e)]; exact ⟨rfl, rfl⟩
              have H9A := Lib.hid h9a
              have H9L := Lib.hid h9l
              have H9N := Lib.hid h9n
              have HL1 := Lib.hid hL1
              have HX1 := Lib.hid (⟨hX1, hk31, hsn1, hlx1, hx1⟩ : R1.X = bts b ∧ 3 * R1.kinds.length ≤ R1.at_ ∧ R1.stops.length + 1 ≤ R1.kinds.length ∧ R1.X.length = 8 * b.length ∧ R1.X.drop R1.at_ = x')
              have hatI : (0 : Int) ≤ (R1.at_ : Int) ∧ (R1.at_ : Int) ≤ 100000000000 := by have := hL1.len; omega
              have hq : ((R1.at_ : Int) + 7) / 8 = (((R1.at_ + 7) / 8 : Nat) : Int) := by omega
              have HQ8 := Lib.hid hq
              clear hs9 hstep1 hsT hmu9 hO1 hs1 hkds hx1 hla hla1 h9a h9l h9n hL1 hX1 hk31 hsn1 hlx1 hle1 hev1 hq hk
              go_region_law
                ((refine step_app .i64 w.heap.size 3 i0 8 rfl (.tmp 68) (.tmp 74) _ rfl Try.underlying32 Hi.out Hz0.out Hz1.out Hz2.out rfl hoA rfl hlit hnsb (by omega) (by first | (simp; omega) | simp) ?_)
                 intro A4 d4 w4 hown4 hg4 hat4
                 have har4 := (hM.cell.alloc (.cells #[.int .i64 (R1.no : Nat)] 3)).drew.grown hg4 (fun e => hap e.symm)
                 have x4 := har4.cell (i := 4) (by omega)
                 have z4 := har4.frozen' (i := 4) (by omega))
              all_goals
                have hne : blkOf A4 ≠ some gs := by
                  rcases hat4 with e | e
                  · rw [e]; exact hap
                  · rw [e]; intro e2; injection e2 with e2; simp at e2; omega
                have h7 := hM.refl.nstops (A' := A4) (n' := R1.ns + 1) (c' := d4) (l' := R1.stops ++ [((R1.no : Nat) : Int)]) (((((Chg.refl wc _).alloc _).drew).grown hg4 (fun q hq => .inl (.inr hq))).setCell (p := ⟨gs, 4, none⟩) (.inl (.inl rfl)) (.slice A4 (R1.ns + 1) d4)) ((har4.set_ (i := 4) (by omega) _).congr (all13 rfl rfl rfl rfl rfl rfl rfl rfl rfl rfl rfl rfl rfl)) (hown4.far (p := ⟨gs, 4, none⟩) hne _) (fun k hk => by
                  rcases hat4 with e | e
                  · exact .inl (e ▸ hk)
                  · rw [e] at hk; injection hk with hk; simp at hk; exact .inr (by show wc.heap.size ≤ k; omega))
                obtain ⟨c7, hM7, hD7⟩ := h7
                have hb7 := hb1.trans hD7.1
                clear hM hD7 hne hown4 hg4 hat4 har4 x4 z4 hoA hlit hap hgr k0 k4
                obtain ⟨w7, hw7⟩ : ∃ w7, w4.setCell ⟨gs, 4, none⟩ (.slice A4 (R1.ns + 1) d4) = w7 := ⟨_, rfl⟩
                rw [hw7] at hM7 hb7 ⊢
                clear hw7
                by_cases hv1 : V % 2 = 1
                · have k6 := hM7.cell.cell (i := 6) (by omega)
                  have z2 := hM7.cell.frozen' (i := 2) (by omega)
                  have k2 := hM7.cell.cell (i := 2) (by omega)
                  rw [show ∀ R : RM, sF R 6 = .int .i64 (R.at_ : Nat) from fun _ => rfl] at k6
                  have hvI : (V : Int) % 2 = 1 := by omega
                  have h8 := hM7.put (i := 2) (by omega) (.int .i64 (((R1.at_ : Int) + 7) / 8)) { R1 with As := A4, ns := R1.ns + 1, cs := d4, stops := R1.stops ++ [((R1.no : Nat) : Int)], rest := (((R1.at_ : Int) + 7) / 8) } (all13 rfl rfl rfl rfl rfl rfl rfl rfl rfl rfl rfl rfl rfl) rfl
                  have hb8 := hb7.setCell (p := ⟨gs, 2, none⟩) (hM7.cb gs (by rw [hM7.cg]; decide)).1 (.int .i64 (((R1.at_ : Int) + 7) / 8))
                  have HH := Lib.hid (⟨h8, hb8⟩ : _ ∧ _)
                  have HV1 := Lib.hid hv1
                  clear h8 hb8 hM7 hb7 hv1
                  go_wp2_with fail
                  go_ret
                  obtain ⟨h8, hb8⟩ := HH.out
                  obtain ⟨e1, e2⟩ := H9L.out HV1.out
                  obtain ⟨g1, g2, g3, g4, g5⟩ := H9A.out
                  have hf : F = (s9, 8) := by rw [← HF.out, ← HS9.out.fin_eq, IS.fin_eight e2]
                  have hL1 := HL1.out
                  obtain ⟨hX1, hk31, hsn1, hlx1, hx1⟩ := HX1.out
                  subst hf
                  refine ⟨gs, c7, _, rfl, h8, hb8, hL1.E.trans (by unfold endE; rw [if_pos rfl]), ?_, ?_, ?_, ?_, fun _ => ?_⟩
                  · exact hL1.out.trans g1.symm
                  · exact hL1.kinds.trans g2.symm
                  · show R1.stops ++ [((R1.no : Nat) : Int)] = s9.stops
                    rw [g3, HNO.out]
                    congr 1
                    exact hL1.stops
                  · exact hL1.toks.trans g4.symm
                  · show (((R1.at_ : Int) + 7) / 8) = ((b.length - s9.x.length / 8 : Nat) : Int)
                    have hl : x'.length = R1.X.length - R1.at_ := by rw [← hx1, List.length_drop]
                    rw [e1, algn_length, hl, hlx1]
                    have := hL1.le
                    omega
                · have hvI : ((V : Int) % 2 == 1) = false := by simp; omega
                  have HH := Lib.hid (⟨hM7, hb7⟩ : _ ∧ _)
                  have HV1 := Lib.hid hv1
                  clear hM7 hb7 hv1
                  go_wp2_with fail
                  go_roundg s9.mu
                  case measure => exact HMU.out
                  case rel =>
                    obtain ⟨h8, hb8⟩ := HH.out
                    obtain ⟨e1, e2⟩ := H9N.out HV1.out
                    obtain ⟨g1, g2, g3, g4, g5⟩ := H9A.out
                    have hL1 := HL1.out
                    obtain ⟨hX1, hk31, hsn1, hlx1, hx1⟩ := HX1.out
                    refine ⟨_, s9, c7, h8, hb8, ⟨hx1.trans e1.symm, hL1.le, hL1.out.trans g1.symm, hL1.kinds.trans g2.symm, ?_, hL1.toks.trans g4.symm, ?_, hL1.E, hL1.bit, hL1.len, hL1.even, ?_, hL1.tk⟩, hO9, e2, HS9.out, rfl, hk31, ?_, hX1⟩
                    · show R1.stops ++ [((R1.no : Nat) : Int)] = s9.stops
                      rw [g3, HNO.out]
                      congr 1
                      exact hL1.stops
                    · rw [g1, g5]; exact hL1.most
                    · rw [g1, g5]; exact hL1.small
                    · show (R1.stops ++ [((R1.no : Nat) : Int)]).length ≤ R1.kinds.length
                      rw [List.length_append]; exact hsn1
end
end Go.Proofs.Ytlgkiookobedcaa
