/-
  The walk of the decoder's heads.
-/
import Derived.Test.YtjeedkjgjfbndaaInfD
import Derived.Test.YtjeedkjgjfbndaaArr
namespace Go.Proofs.Ytjeedkjgjfbndaa
open Go.RowKit
set_option linter.unusedVariables false
section
variable {w w' w0 w2 : World} {b0 g : Nat} {c0 : Nat → Nat} {M M' : DM} {S S' : DS} {s t : IS} {b : List Int} {v : Int}
/-- a length more -/
theorem InfS.push (h : InfS w0 c0 w b0 g M S) (v : Int) {A2 : Option Addr} {n2 c2 : Nat} (hg : (w.alloc (.cells #[.int .i64 v] 3)).grownBy w2 (blkOf M.Al)) (ho : OwnI .i64 w2 b0 3 A2 n2 c2 (M.lens ++ [v])) (hat : blkOf A2 = blkOf M.Al ∨ blkOf A2 = some (w.alloc (.cells #[.int .i64 v] 3)).heap.size) :
    InfS w0 c0 (w2.setCell ⟨g, 11, none⟩ (.slice A2 n2 c2)) b0 g { M with Al := A2, nl := n2, cl := c2, lens := M.lens ++ [v] } S := by
  have hap := h.apart.2.1
  have hgl := h.cell.lt
  have har := (h.cell.alloc (.cells #[.int .i64 v] 3)).grown hg (fun e => hap e.symm)
  have hne : blkOf A2 ≠ some g := by
    rcases hat with e | e
    · rw [e]; exact hap
    · rw [e]; intro e2; injection e2 with e2; simp at e2; omega
  refine h.lenses ((((Chg.refl w _).alloc _).grown hg (fun q hq => .inl (.inr hq))).setCell (p := ⟨g, 11, none⟩) (.inl (.inl rfl)) _) ((har.set_ (i := 11) (by omega) _).congr (all16 rfl rfl rfl rfl rfl rfl rfl rfl rfl rfl rfl rfl rfl rfl rfl rfl)) (ho.far (p := ⟨g, 11, none⟩) hne _) (fun k hk => ?_)
  rcases hat with e | e
  · exact .inl (e ▸ hk)
  · rw [e] at hk; injection hk with hk; simp at hk; exact .inr (by omega)
theorem heads_step (h : t.st = 4) : t.step = t.heads := by unfold IS.step; rw [if_neg (by omega), if_neg (by omega), if_neg (by omega), if_neg (by omega), if_pos h]
theorem heads_lack (h : t.st = 4) (hl : t.lens.length < t.c2) (hx : t.x.length < 3) : t.step.2 = 5 := by rw [heads_step h, IS.heads, if_pos hl, if_pos hx]
theorem heads_push (h : t.st = 4) (hl : t.lens.length < t.c2) (hx : ¬ t.x.length < 3) : t.step = ({ t with x := t.x.drop 3, lens := t.lens ++ [(num t.x 3 : Int)] }, 0) := by rw [heads_step h, IS.heads, if_pos hl, if_neg hx]
theorem heads_bad (h : t.st = 4) (hl : ¬ t.lens.length < t.c2) (hx : checkOf (hAll t.lens) 7 ≠ 0 ∨ noneB t.lens = true) : t.step = (t, 3) := by rw [heads_step h, IS.heads, if_neg hl, if_pos hx]
theorem heads_ok (h : t.st = 4) (hl : ¬ t.lens.length < t.c2) (hx : ¬ (checkOf (hAll t.lens) 7 ≠ 0 ∨ noneB t.lens = true)) : t.step = ({ t with hd := hAll t.lens, lens := [], st := 5 }, 0) := by rw [heads_step h, IS.heads, if_neg hl, if_neg hx]
def HeadR (w0 : World) (c0 : Nat → Nat) (b0 g : Nat) (M : DM) (S : DS) (s : IS) (k : Nat) (wr : World) : Prop :=
  ∃ M' t, InfS w0 c0 wr b0 g M' S ∧ IS.Steps s t ∧ Live M' S t ∧ t.Ok ∧ t.st = 4 ∧ M'.out = M.out ∧ t.all = s.all ∧ Hid (k = t.c2 - t.lens.length) ∧ Hid (t.mu ≤ s.mu)
/-- the lengths in their places, up to place i of the order -/
def hF (l : List Int) (i p : Nat) : Value := .int .i64 (if hOrd.idxOf p < i then ix l (hOrd.idxOf p) else 0)
theorem hF_zero (l : List Int) (p : Nat) : Value.int .i64 0 = hF l 0 p := by unfold hF; rw [if_neg (Nat.not_lt_zero _)]
theorem hOrd_at : ∀ i, i < 19 → ∀ p, p < 19 → (hOrd.idxOf p = i ↔ p = hOrd.getD i 0) := by decide +kernel
theorem hOrd_lt : ∀ i, i < 19 → hOrd.getD i 0 < 19 := by decide +kernel
theorem hF_next {l : List Int} {i : Nat} (hi : i < 19) {p : Nat} (hp : p < 19) : upd (hF l i) (hOrd.getD i 0) (.int .i64 (ix l i)) p = hF l (i + 1) p := by
  have h := hOrd_at i hi p hp
  by_cases e : p = hOrd.getD i 0
  · rw [← e, upd_same]
    unfold hF
    rw [h.2 e, if_pos (by omega)]
  · rw [upd_other _ _ e]
    have : hOrd.idxOf p ≠ i := fun e2 => e (h.1 e2)
    unfold hF
    by_cases e3 : hOrd.idxOf p < i
    · rw [if_pos e3, if_pos (by omega)]
    · rw [if_neg e3, if_neg (by omega)]
theorem hF_end {l : List Int} {p : Nat} (hp : p < 19) : hF l l.length p = .int .i64 (ix (hAll l) p) := by
  unfold hF
  have e : ix (hAll l) p = ix l (hOrd.idxOf p) := by simp [ix, hAll, hp]
  rw [e]
  split
  · rfl
  · congr 1
    unfold ix
    rw [List.getD_eq_getElem?_getD, List.getElem?_eq_none (by omega)]; rfl
theorem noneB_take {l : List Int} {i : Nat} (hi : i < l.length) : noneB (l.take (i + 1)) = (noneB (l.take i) && (ix l i == 0)) := by
  unfold noneB
  rw [List.take_succ_eq_append_getElem hi, List.all_append]
  simp [ix, hi]
/-- the loop that lays the lengths in their places: wb the world ahead of it -/
def HeadT (wb : World) (l : List Int) (ga : Nat) (A : Option Addr) (nl : Nat) (k : Nat) (n i : Value) (wr : World) : Prop :=
  ∃ j, j ≤ l.length ∧ Hid (k = l.length - j) ∧ i = .int .i64 j ∧ n = .bool (noneB (l.take j)) ∧ Below ga wb wr ∧ Ar wr ga 19 (hF l j) ∧ Ar wr (ga + 1) 19 (fun p => .int .i64 (hOrd.getD p 0 : Nat)) ∧ RdI .i64 wr ga A nl l
theorem StepPost.after {M1 : DM} {e : Ending} (hs : IS.Steps s t) (hm : t.mu ≤ s.mu) (hall : t.all = s.all) (ho : M1.out = M.out) (h : StepPost w0 c0 b0 g M1 t e w') : StepPost w0 c0 b0 g M s e w' := by
  obtain ⟨M', S', s', v, b, h1, h2, h3, h4, h5, h6, h7⟩ := h
  refine ⟨M', S', s', v, b, h1, h2, h3, by rw [h4, ho], by rw [h5, hall], h6, ?_⟩
  rcases h7 with ⟨a1, a2, a3, a4⟩ | ⟨a1, a2, a3, a4⟩ | ⟨a1, a2, a3, a4⟩
  · exact .inl ⟨a1, hs.trans a2, by omega, a4⟩
  · exact .inr (.inl ⟨a1, hs.trans a2, a3, a4⟩)
  · exact .inr (.inr ⟨a1, a2, by rw [← hs.fin_eq]; exact a3, a4⟩)
/-- the world behind 'all' and 'order' -/
def ordW (w : World) : World := ((w.alloc (.cells (zrow 19 (.int .i64 0)) 3)).alloc (.cells #[.int .i64 16, .int .i64 17, .int .i64 18, .int .i64 0, .int .i64 8, .int .i64 7, .int .i64 9, .int .i64 6, .int .i64 10, .int .i64 5, .int .i64 11, .int .i64 4, .int .i64 12, .int .i64 3, .int .i64 13, .int .i64 2, .int .i64 14, .int .i64 1, .int .i64 15] 68)).drew
theorem ordW_facts (w : World) (l : List Int) : Below w.heap.size w (ordW w) ∧ Ar (ordW w) w.heap.size 19 (hF l 0) ∧ Ar (ordW w) (w.heap.size + 1) 19 (fun p => .int .i64 (hOrd.getD p 0 : Nat)) := by
  refine ⟨(((Below.refl _ w).alloc (Nat.le_refl _) _).alloc (by simp) _).drew, (((Ar.zeros w 19 (.int .i64 0) 3).alloc _).drew).congr fun p _ => hF_zero l p, ?_⟩
  have := Ar.new (m := 19) (f := fun p => .int .i64 (hOrd.getD p 0 : Nat)) (w.alloc (.cells (zrow 19 (.int .i64 0)) 3)) #[.int .i64 16, .int .i64 17, .int .i64 18, .int .i64 0, .int .i64 8, .int .i64 7, .int .i64 9, .int .i64 6, .int .i64 10, .int .i64 5, .int .i64 11, .int .i64 4, .int .i64 12, .int .i64 3, .int .i64 13, .int .i64 2, .int .i64 14, .int .i64 1, .int .i64 15] 68 rfl (fun i hi => by
    obtain rfl | rfl | rfl | rfl | rfl | rfl | rfl | rfl | rfl | rfl | rfl | rfl | rfl | rfl | rfl | rfl | rfl | rfl | rfl : i = 0 ∨ i = 1 ∨ i = 2 ∨ i = 3 ∨ i = 4 ∨ i = 5 ∨ i = 6 ∨ i = 7 ∨ i = 8 ∨ i = 9 ∨ i = 10 ∨ i = 11 ∨ i = 12 ∨ i = 13 ∨ i = 14 ∨ i = 15 ∨ i = 16 ∨ i = 17 ∨ i = 18 := by omega
    all_goals rfl)
  rw [show (w.alloc (.cells (zrow 19 (.int .i64 0)) 3)).heap.size = w.heap.size + 1 by simp] at this
  exact this.drew
theorem arr19_info : (Try.prog.info? 68).map (fun i => (i.zero, i.size)) = some (some (.agg (Array.replicate 19 (.int .i64 0))), 19) := by kernel_rfl
set_option maxRecDepth 100000 in
set_option maxHeartbeats 8000000 in
theorem dheads_any (h : InfS w0 c0 w b0 g M S) (hL : Live M S s) (hO : s.Ok) (hst : s.st = 4) :
    Calls Try.prog 29 #[.pointer (some ⟨g, 0, none⟩)] w (StepPost w0 c0 b0 g M s) := by
  obtain ⟨i0, hi, hz0, hz1, hz2⟩ := info_parts xint_info
  obtain ⟨it, hit, hitz, hits⟩ : ∃ it, Try.prog.info? 68 = some it ∧ it.zero = some (.agg (Array.replicate 19 (.int .i64 0))) ∧ it.size = 19 := by
    have h := arr19_info
    cases hq : Try.prog.info? 68 with
    | none => rw [hq] at h; simp at h
    | some it => rw [hq] at h; simp at h; exact ⟨it, rfl, h.1, h.2⟩
  have HT := Lib.hid (And.intro hit (And.intro hitz hits))
  clear hit hitz hits
  have Hi := Lib.hid hi
  have Hz0 := Lib.hid hz0
  have Hz1 := Lib.hid hz1
  have Hz2 := Lib.hid hz2
  clear hi hz0 hz1 hz2
  go_enter Try.func29, Try.ntmps29
  go_wp2
  go_loopg [] (s.c2 - s.lens.length) (HeadR w0 c0 b0 g M S s)
  case atStart => exact ⟨M, s, h, .refl s, hL, hO, hst, rfl, rfl, rfl, Nat.le_refl _⟩
  case round =>
    clear h hL hO hst
    obtain ⟨M1, t, h, hs, hL, hO, hst, ho, hall, hk, hmu⟩ := hrel
    obtain ⟨h41, h42, h43⟩ := hO.h4 hst
    obtain ⟨-, -, -, -, -, -, -, -, -, -, k10, k11, -⟩ := h.cells
    have hnl := h.lens.1
    rw [hL.lens] at hnl
    have hb := hL.x
    have hcI : (0 : Int) ≤ M1.nl ∧ (M1.nl : Int) ≤ 19 ∧ (0 : Int) ≤ S.c2 ∧ (S.c2 : Int) ≤ 19 := by have := hL.c2; omega
    have HC2 := Lib.hid hL.c2
    have HNL := Lib.hid hnl
    have HB := Lib.hid hb
    by_cases hlt : (M1.nl : Int) < (S.c2 : Int)
    · have hlt2 : Hid (t.lens.length < t.c2) := by show _ < _; have := HC2.out; have := HNL.out; omega
      by_cases hx : t.x.length < 3
      · have hlack := Lib.hid (heads_lack hst hlt2.out hx)
        have hl : ((rb M1.B M1.a).length : Int) < 3 := by rw [hb]; omega
        clear hb hx hnl hk
        go_wp2_with fail
        go_region
        all_goals
          go_wp2_with fail
          refine (dbit_not h.drew 3 (.inr (.inr hl))).mono ?_
          rintro e w1 ⟨rfl, h1⟩
          go_wp2_with fail
          go_ret
          exact ⟨M1, S, t, 5, [], rfl, h1, hL.err, by rw [ho, List.append_nil], by rw [hall, List.append_nil], by simp, .inr (.inl ⟨rfl, hs, hlack.out, hL⟩)⟩
      · have hpush := heads_push hst hlt2.out hx
        have hl : 3 ≤ (rb M1.B M1.a).length := by rw [hb]; omega
        obtain ⟨v, hv⟩ : ∃ v : Int, ((num t.x 3 : Nat) : Int) = v := ⟨_, rfl⟩
        have hbit : Hid (∀ w2 : World, InfS w0 c0 w2 b0 g M1 S → Calls Try.prog 34 #[.pointer (some ⟨g, 0, none⟩), .int .i64 3] w2 fun e w' => e = .returned (.tuple #[.int .i64 v, .bool true]) ∧ InfS w0 c0 w' b0 g { M1 with a := M1.a + 3 } S) := fun w2 h2 => by
          have := dbit_ok h2 3 (by omega) hl
          rwa [hb, hv] at this
        have hrb : Hid (rb M1.B (M1.a + 3) = t.x.drop 3) := by show _ = _; rw [← rb_drop, hb]
        have hv0 : 0 ≤ v := by omega
        rw [hv] at hpush
        have HP := Lib.hid hpush
        have hmu2 : Hid (t.step.1.mu < t.mu) := IS.mu_step (by rw [hpush])
        clear hb hx hnl hl hv hpush
        go_wp2_with fail
        go_region
        all_goals
          go_wp2_with fail
          refine (hbit.out _ h.drew).mono ?_
          rintro e w1 ⟨rfl, h1⟩
          obtain ⟨-, -, -, -, -, -, -, -, -, -, -, i11, -⟩ := h1.cells
          have hoA := h1.lens.alloc (.cells #[.int .i64 v] 3)
          have hb1 := h1.lo
          go_wp2_with (at_builtin; (refine wpList_app .i64 b0 3 i0 8 rfl (.tmp 34) (.tmp 36) _ rfl Try.underlying38 Hi.out Hz0.out Hz1.out Hz2.out rfl hoA rfl (RdI.lit .i64 w1 [v] 3) (by show M1.nl + 1 ≤ _; omega) (by omega) (by simp; omega) ?_)
                       intro A4 d4 w4 hown4 hg4 hat4
                       have har4 := (h1.cell.alloc (.cells #[.int .i64 v] 3)).grown hg4 (fun e => h1.apart.2.1 e.symm)
                       have x11 := har4.cell (i := 11) (by omega)
                       have z11 := har4.frozen' (i := 11) (by omega))
          have h5 := h1.push v hg4 hown4 hat4
          go_roundg (gk - 1)
          case measure => have h1 := hk.out; have h2 := hlt2.out; omega
          case rel =>
            have hst5 := IS.Steps.tail hs (by rw [HP.out])
            have hO5 := hO.step (.inl (by rw [HP.out]))
            have hm5 := hmu2.out
            rw [HP.out] at hst5 hO5 hm5
            exact ⟨_, _, h5, hst5, ⟨hrb.out, hL.st, hL.last, hL.left, hL.c0, hL.c1, hL.c2, by show M1.lens ++ [v] = t.lens ++ [v]; rw [hL.lens], fun e => by simp [hst] at e, fun e => by simp [hst] at e, fun e => by simp [hst] at e, fun e => by simp [hst] at e, hL.tail, hL.rem, hL.err⟩, hO5, hst, ho, hall, by show gk - 1 = t.c2 - (t.lens ++ [v]).length; rw [List.length_append]; have := hk.out; simp; omega, Nat.le_trans (Nat.le_of_lt hm5) hmu.out⟩
    · rename World => wb
      have hlt2 : ¬ t.lens.length < t.c2 := by have := HC2.out; have := HNL.out; omega
      have hcb : Hid (checkOf (hAll t.lens) 7 ≠ 0 ∨ noneB t.lens = true → t.step = (t, 3)) := fun h1 => heads_bad hst hlt2 h1
      have hco : Hid (¬ (checkOf (hAll t.lens) 7 ≠ 0 ∨ noneB t.lens = true) → t.step = ({ t with hd := hAll t.lens, lens := [], st := 5 }, 0)) := fun h1 => heads_ok hst hlt2 h1
      clear hb hk hlt2 hnl
      have hmk : ∀ W, (Instr.makeSlice 38 (.int .i64 19) (.int .i64 19)).run Try.prog W = .ok (.slice (some ⟨W.heap.size, 0, none⟩) 19 19) (W.alloc (.cells (zrow 19 (.int .i64 0)) 3)) := fun W => run_make_zrow (P := Try.prog) 38 3 i0 (.int .i64 0) Try.underlying38 Hi.out Hz0.out Hz1.out rfl .i64 .i64 19 (by rw [Hz2.out]; omega) (by omega) W
      have hge : ¬ (M1.nl : Int) < (S.c2 : Int) := hlt
      have hge2 : (M1.nl < S.c2) = False := by simp; omega
      have hwf := Lib.hid (ordW_facts wb M1.lens)
      have hW : InfS w0 c0 (ordW wb) b0 g M1 S := h.keeps hwf.out.1
      obtain ⟨-, -, -, -, -, -, -, -, -, -, -, x11, -⟩ := hW.cells
      unfold ordW at x11
      have HRL := Lib.hid h.lens
      have hgs := h.cell.lt
      have hal : RdI .i64 (ordW wb) wb.heap.size M1.Al M1.nl M1.lens := h.lens.rd.below hwf.out.1
      clear hlt
      go_wp2_with fail
      go_region
      all_goals
        go_upto_region 8 with fail
        refine wp_region_list ?_
        refine wpList_arr 68 3 19 _ [16, 17, 18, 0, 8, 7, 9, 6, 10, 5, 11, 4, 12, 3, 13, 2, 14, 1, 15] 41 7 rfl rfl rfl rfl rfl rfl rfl rfl rfl Try.underlying68 (by kernel_rfl) it HT.out.1 _ HT.out.2.1 rfl HT.out.2.2 rfl rfl rfl ?_
        go_wp2_with fail
        change Code.wp _ _ _ _ (ordW wb)
        clear x11 hmk hge hge2
        obtain ⟨ga, hga⟩ : ∃ ga, wb.heap.size = ga := ⟨_, rfl⟩
        obtain ⟨Al, hAl⟩ : ∃ A, M1.Al = A := ⟨_, rfl⟩
        obtain ⟨nl, hnl2⟩ : ∃ n, M1.nl = n := ⟨_, rfl⟩
        obtain ⟨l, hl⟩ : ∃ l, M1.lens = l := ⟨_, rfl⟩
        rw [hga] at hwf hal ⊢
        rw [hAl, hnl2] at hal ⊢
        rw [hl] at hal hwf
        rw [hnl2] at hcI
        have HGA := Lib.hid hga
        have HAL := Lib.hid hAl
        have HNL2 := Lib.hid hnl2
        have HLL := Lib.hid hl
        clear hga hAl hnl2 hl
        generalize ordW wb = wo at hwf hW hal ⊢
        have hnl3 := Lib.hid hal.1
        have hWb := Lib.hid h
        clear h hW
        go_loopg [6, 47] l.length (HeadT wb l ga Al nl)
        case atStart => exact ⟨0, Nat.zero_le _, rfl, rfl, rfl, hwf.out.1, hwf.out.2.1, hwf.out.2.2, hal⟩
        case round =>
          clear hal hwf
          obtain ⟨j, hj, hk, rfl, rfl, hbw, har, hao, hal⟩ := hrel
          by_cases hjn : j < nl
          · have hjI : (0 : Int) ≤ j ∧ (j : Int) < (nl : Int) ∧ (j : Int) < 19 := by omega
            obtain ⟨ad, rfl, hbl, c1⟩ := hal.at_ hjn
            have c2 := hao.cell (i := j) (by omega)
            have hp := hOrd_lt j (by omega)
            have hnx := Lib.hid (fun q (hq : q < 19) => hF_next (l := l) (i := j) (by omega) hq)
            obtain ⟨p, hpp⟩ : ∃ p, hOrd.getD j 0 = p := ⟨_, rfl⟩
            rw [hpp] at c2 hp hnx
            have z3 := har.frozen' hp
            have c3 := har.cell hp
            have hnt := Lib.hid (noneB_take (l := l) (i := j) (by rw [← hnl3.out]; exact hjn))
            obtain ⟨x, hx⟩ : ∃ x, ix l j = x := ⟨_, rfl⟩
            rw [hx] at c1 hnx hnt
            have hpI : (0 : Int) ≤ p ∧ (p : Int) < 19 := by omega
            have hrel2 : Hid (∀ nb, nb = noneB (l.take (j + 1)) → HeadT wb l ga (some ad) nl (gk - 1) (.bool nb) (.int .i64 ((j : Int) + 1)) (wr.setCell ⟨ga, p, none⟩ (.int .i64 x))) := fun nb hnb =>
              ⟨j + 1, by rw [← hnl3.out]; omega, by show gk - 1 = _; have := hk.out; omega, by go_num, by rw [hnb], hbw.setCell (p := ⟨ga, p, none⟩) (Nat.le_refl _) _, (har.set_ hp _).congr fun q hq => hnx.out q hq, hao.far (p := ⟨ga, p, none⟩) (by show ga + 1 ≠ ga; omega) _, hal.keep fun q hq => World.cell?_of_block (Below.heap_setCell _ _ _ _ (by simp; omega))⟩
            clear hpp hx
            cases hnb : noneB (l.take j)
            · rw [hnb] at hnt
              have HNT : Hid (false = noneB (l.take (j + 1))) := by show _ = _; rw [hnt.out]; rfl
              clear hnt hnb
              go_wp2_with fail
              go_roundg (gk - 1)
              case measure => have := hk.out; have := hnl3.out; omega
              case rel => exact hrel2.out _ HNT.out
            · rw [hnb] at hnt
              by_cases hx0 : x = 0
              · have HNT : Hid (true = noneB (l.take (j + 1))) := by show _ = _; rw [hnt.out, hx0]; rfl
                clear hnt hnb
                subst hx0
                go_wp2_with fail
                go_roundg (gk - 1)
                case measure => have := hk.out; have := hnl3.out; omega
                case rel => exact hrel2.out _ HNT.out
              · have hx1 : (x == 0) = false := by simpa using hx0
                have HNT : Hid (false = noneB (l.take (j + 1))) := by show _ = _; rw [hnt.out, hx1]; rfl
                clear hnt hnb hx0
                go_wp2_with fail
                go_roundg (gk - 1)
                case measure => have := hk.out; have := hnl3.out; omega
                case rel => exact hrel2.out _ HNT.out
          · obtain rfl : j = nl := by have := hnl3.out; omega
            rw [hnl3.out, List.take_length]
            rw [hnl3.out] at har
            have hr2 : RdI .i64 wr (ga + 1) (some ⟨ga, 0, none⟩) 19 (hAll l) := ⟨(hAll_length l).symm, (har.rd (B := ga + 1) (by omega) (Nat.le_refl 19)).congr fun q hq => hF_end hq⟩
            have hgl := har.lt
            have HLT : l = t.lens := by rw [← HLL.out, hL.lens]
            rw [← HLT] at hcb hco
            have hW2 := hWb.out.keeps (w' := wr) (by rw [HGA.out]; exact hbw)
            have HLT2 := Lib.hid HLT
            have hnge : ¬ (j : Int) < (j : Int) := by omega
            clear har hao hal hbw hnl3 HLT HNL HC2
            by_cases hck : checkOf (hAll l) 7 = 0
            · have hbd := build_ok wr (some ⟨ga, 0, none⟩) 19 19 (ga + 1) (hAll l) 7 hr2 hgl (by omega) hck
              have HCK := Lib.hid hck
              have HBD := Lib.hid hbd
              clear hck hbd
              cases hnn : noneB l
              · have HN2 := Lib.hid hnn
                clear hnn
                go_wp2_with fail
                refine HBD.out.mono ?_
                rintro e w3 ⟨g3, rfl, ht3, hb3⟩
                have h3 := (hW2.putT hb3 ht3 (by rw [hAll_length]; omega)).1
                have h3k := hW2.keeps hb3
                have z12 := h3k.cell.frozen' (i := 12) (by omega)
                have z11 := h3k.cell.frozen' (i := 11) (by omega)
                have z5 := h3k.cell.frozen' (i := 5) (by omega)
                obtain ⟨-, -, -, -, -, k5, -, -, -, -, -, k11, k12, -⟩ := h3k.cells
                have h4 := h3.noLens.put (i := 5) (by omega) (.int .i64 5) { S with st := 5 } (all16 rfl rfl rfl rfl rfl rfl rfl rfl rfl rfl rfl rfl rfl rfl rfl rfl)
                go_wp2_with fail
                go_ret
                refine StepPost.after hs hmu.out hall ho (StepPost.go0 (hco.out (by rw [HCK.out, HN2.out]; simp)) rfl h4 ⟨HB.out, rfl, hL.last, hL.left, hL.c0, hL.c1, hL.c2, rfl, fun _ => rfl, fun e => by simp at e, fun e => by simp at e, fun e => by simp at e, hL.tail, hL.rem, hL.err⟩ rfl)
              · have HN2 := Lib.hid hnn
                clear hnn
                go_wp2_with fail
                refine HBD.out.mono ?_
                rintro e w3 ⟨g3, rfl, ht3, hb3⟩
                have h3k := hW2.keeps hb3
                go_wp2_with fail
                go_ret
                exact StepPost.after hs hmu.out hall ho (StepPost.bad0 (hcb.out (.inr HN2.out)) (by decide) (by decide) (by decide) rfl h3k hL.err rfl)
            · have hbd := build_no wr (some ⟨ga, 0, none⟩) 19 19 (ga + 1) (hAll l) 7 hr2 (by omega) hck
              have HCK := Lib.hid hck
              obtain ⟨E, hE⟩ : ∃ E, checkOf (hAll l) 7 = E := ⟨_, rfl⟩
              rw [hE] at hbd hck
              have hE0 : (E == 0) = false := by simpa using hck
              have HBD := Lib.hid hbd
              have hE1 : (E != 0) = true := by simpa using hck
              generalize noneB l = nb
              clear hck hbd hE
              cases nb
              all_goals
                go_wp2_with fail
                refine HBD.out.mono ?_
                rintro e w3 ⟨rfl, rfl⟩
                go_wp2_with fail
                go_ret
                exact StepPost.after hs hmu.out hall ho (StepPost.bad0 (hcb.out (.inl HCK.out)) (by decide) (by decide) (by decide) rfl hW2 hL.err rfl)
end
end Go.Proofs.Ytjeedkjgjfbndaa
