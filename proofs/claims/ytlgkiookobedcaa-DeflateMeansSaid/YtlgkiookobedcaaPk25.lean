/-
  Several texts in one (written by pack2.py): FndG, FndH.
-/
import Derived.Test.YtlgkiookobedcaaPk23
import Derived.Test.YtlgkiookobedcaaZer
import Derived.Deep.QuietTactic
import Derived.Test.YtlgkiookobedcaaPk24
namespace Go.Proofs.Ytlgkiookobedcaa
open Go.RowKit Go.Maps
set_option linter.unusedVariables false
def FWritePost (w : World) (b0 g : Nat) (e : Eff) (st : FSt) (A : Option Addr) (gm : Nat) (Ap : Option Addr) (r : Ending) (w' : World) : Prop :=
  r = .returned (.tuple #[]) ∧ ∃ (A' : Option Addr) (n' c' : Nat) (Ap' : Option Addr) (np' cp' nm : Nat) (Dm : DataW Unit), FndC w' b0 g e st st.at_ A' n' c' gm nm Dm Ap' np' cp' ∧ Chg w w' (FF A gm Ap g) ∧ (∀ k, FF A' gm Ap' g k → FF A gm Ap g k ∨ w.heap.size ≤ k)
section
variable {w w' w1 w2 : World} {b0 g b n c gm nm np cp : Nat} {e : Eff} {st : FSt} {A Ap : Option Addr} {Dm : DataW Unit}
theorem FndC.rows (h : FndC w b0 g e st b A n c gm nm Dm Ap np cp) {A' Ap' : Option Addr} {n' c' np' cp' : Nat} {st' : FSt} (hcell : Ar w' g 8 (ff e A' n' c' st'.base st'.at_ gm Ap' np' cp')) (ho : OwnI .u8 w' b0 5 A' n' c' (st'.D.drop st'.base))
    (hop : OwnI .i64 w' b0 3 Ap' np' cp' (st'.P.drop st'.base)) (hc : Chg w w' (fun k => k = g ∨ blkOf A = some k ∨ blkOf Ap = some k)) (hhead : st'.head = st.head) (hA : ∀ q, blkOf A' = some q → blkOf A = some q ∨ w.heap.size ≤ q)
    (hAp : ∀ q, blkOf Ap' = some q → blkOf Ap = some q ∨ w.heap.size ≤ q) (hd4 : ∀ q, blkOf A' = some q → blkOf Ap' ≠ some q) (hok : st'.Ok b) (hby : ∀ x ∈ st'.D, 0 ≤ x ∧ x < 256) (hbig : st'.D.length ≤ 100000000000) :
    FndC w' b0 g e st' b A' n' c' gm nm Dm Ap' np' cp' ∧ Chg w w' (FF A gm Ap g) ∧ (∀ k, FF A' gm Ap' g k → FF A gm Ap g k ∨ w.heap.size ≤ k) := by
  have hgl := h.cell.lt
  have hml := h.map.lt
  refine ⟨⟨hcell, h.lo, ho, hop, map_keep h.map (hc.block gm h.map.lt fun e => ?_), hhead ▸ h.rep, h.glo, h.nmb, fun e => ?_, fun e => ?_, h.d3, hd4, fun e => ?_, fun e => ?_, hok, hby, h.eb, hbig⟩, hc.more fun k hk => ?_, fun k hk => ?_⟩
  · rcases e with e | e | e
    · exact h.d3 e
    · exact h.d5 e
    · exact h.d6 e
  · rcases hA g e with e | e
    · exact h.d1 e
    · omega
  · rcases hAp g e with e | e
    · exact h.d2 e
    · omega
  · rcases hA gm e with e | e
    · exact h.d5 e
    · omega
  · rcases hAp gm e with e | e
    · exact h.d6 e
    · omega
  · rcases hk with hk | hk | hk
    · exact .inl hk
    · exact .inr (.inr (.inl hk))
    · exact .inr (.inr (.inr hk))
  · rcases hk with hk | hk | hk | hk
    · exact .inl (.inl hk)
    · exact .inl (.inr (.inl hk))
    · rcases hA k hk with e | e
      · exact .inl (.inr (.inr (.inl e)))
      · exact .inr e
    · rcases hAp k hk with e | e
      · exact .inl (.inr (.inr (.inr e)))
      · exact .inr e
def growF (st : FSt) (x : List Int) : FSt := { st with D := st.D ++ x, P := st.P ++ List.replicate x.length 0 }
theorem growF_ok {st : FSt} {b : Nat} (h : st.Ok b) (x : List Int) : (growF st x).Ok b := by
  refine ⟨by simp [growF, h.len], h.lo, by have := h.hi; simp [growF]; omega, by have := h.bl; simp [growF]; omega, fun q => ?_, h.hd⟩
  show -1 ≤ ix (st.P ++ List.replicate x.length 0) q ∧ ix (st.P ++ List.replicate x.length 0) q ≤ q
  rw [ix_append]
  split
  · exact h.prev q
  · rw [ix_rep]; omega
set_option maxRecDepth 100000 in
set_option maxHeartbeats 4000000 in
theorem fwrite_any (h : FndC w b0 g e st st.at_ A n c gm nm Dm Ap np cp) {B m d : Nat} {C : Option Addr} {x : List Int} (hr : RdI .u8 w B C m x) (hB : B ≤ w.heap.size) (hby : ∀ v ∈ x, 0 ≤ v ∧ v < 256) (hlen : st.D.length + m ≤ 100000000000) :
    Calls Try.prog 24 #[.pointer (some ⟨g, 0, none⟩), .slice C m d] w (FWritePost w b0 g e (writeF st x) A gm Ap) := by
  obtain ⟨i1, hi, hz0, hz1, hz2⟩ := info_parts fbyte2_info
  have Ki := Lib.hid hi
  have Kz0 := Lib.hid hz0
  have Kz1 := Lib.hid hz1
  have Kz2 := Lib.hid hz2
  clear hi hz0 hz1 hz2
  obtain ⟨i0, hi, hz0, hz1, hz2⟩ := info_parts fint_info
  have Hi := Lib.hid hi
  have Hz0 := Lib.hid hz0
  have Hz1 := Lib.hid hz1
  have Hz2 := Lib.hid hz2
  clear hi hz0 hz1 hz2
  obtain ⟨c0, c1, c2, c3, c4, c5, c6, c7⟩ := ff_c h
  have z3 := h.cell.frozen' (i := 3) (by omega)
  have hn := h.n_eq
  have hnp := h.np_eq
  have hgs := h.cell.lt
  have hown := h.own
  have hownp := h.ownp
  have hB0 : b0 ≤ w.heap.size := Nat.le_trans h.lo (Nat.le_of_lt hgs)
  have hm := hr.1
  have hn1 : n + m ≤ 100000000000 := by omega
  have hnmI : (0 : Int) ≤ n ∧ (0 : Int) ≤ m ∧ (n : Int) + (m : Int) ≤ 100000000000 := by omega
  have HM := Lib.hid hm
  have HNP := Lib.hid hnp
  have HN := Lib.hid hn
  clear hm hnp hn
  go_enter Try.func24, Try.ntmps24
  go_upto_region 2 with (at_builtin; (refine wpList_app .u8 b0 5 i1 1 rfl (.tmp 11) (.tmp 12) _ rfl Try.underlying22 Ki.out Kz0.out Kz1.out Kz2.out rfl hown rfl hr (by omega) (by omega) hB0 ?_)
                         intro A1 d1 w1 ho1 hg1 hat1
                         have hk1 : Chg w w1 (fun k => blkOf A = some k) := (Chg.refl w (fun k => blkOf A = some k)).grown hg1 fun k hk => .inl hk
                         have har1 := hk1.ar h.cell (fun e => h.d1 e)
                         have z31 := har1.frozen' (i := 3) (by omega)
                         have c31 := har1.cell (i := 3) (by omega))
  have hk1s : Chg w (w1.setCell ⟨g, 3, none⟩ (.slice A1 (n + m) d1)) (fun k => k = g ∨ blkOf A = some k ∨ blkOf Ap = some k) := (hk1.more fun k hk => .inr (.inl hk)).setCell (p := ⟨g, 3, none⟩) (.inl (.inl rfl)) _
  have hb1s : b0 ≤ (w1.setCell ⟨g, 3, none⟩ (.slice A1 (n + m) d1)).heap.size := Nat.le_trans hB0 hk1s.size
  have hA1 : ∀ q, blkOf A1 = some q → blkOf A = some q ∨ q = w.heap.size := fun q hq => by
    rcases hat1 with e2 | e2
    · exact .inl (e2 ▸ hq)
    · rw [e2] at hq; injection hq with hq; exact .inr hq.symm
  have hA1g : blkOf A1 ≠ some g := fun e2 => by
    rcases hA1 g e2 with e3 | e3
    · exact h.d1 e3
    · omega
  have hownp1 : OwnI .i64 (w1.setCell ⟨g, 3, none⟩ (.slice A1 (n + m) d1)) b0 3 Ap np cp (st.P.drop st.base) :=
    (hk1.ownI hownp fun q hq e2 => h.d4 q e2 hq).far (p := ⟨g, 3, none⟩) h.d2 _
  obtain ⟨A2, d2, w2, hrun2, ho2, hg2, hat2⟩ := run_app_zeros (P := Try.prog) (w1.setCell ⟨g, 3, none⟩ (.slice A1 (n + m) d1)) .i64 b0 32 3 32 3 i0 8 .i64 .i64 Try.underlying32 Try.underlying3 Hi.out Hz0.out Hz1.out Hz2.out hownp1 m (by rw [HNP.out]; omega) (by omega) hb1s
  have hk2 : Chg (w1.setCell ⟨g, 3, none⟩ (.slice A1 (n + m) d1)) w2 (fun k => blkOf Ap = some k) := (Chg.refl _ (fun k => blkOf Ap = some k)).grown hg2 fun k hk => .inl hk
  have har1s := har1.set_ (i := 3) (by omega) (.slice A1 (n + m) d1)
  have har2 := hk2.ar har1s (fun e2 => h.d2 e2)
  have c32 := har2.cell (i := 3) (by omega)
  have c72 := har2.cell (i := 7) (by omega)
  have z72 := har2.frozen' (i := 7) (by omega)
  have c71 := har1s.cell (i := 7) (by omega)
  rw [upd_other _ _ (by omega)] at c71 c72
  rw [upd_same] at c32
  replace c71 : _ = some (Value.slice Ap np cp) := c71
  replace c72 : _ = some (Value.slice Ap np cp) := c72
  clear hk1 har1 c31
  go_upto_region 3 with (at_builtin; refine Lib.wpList_append_run _ rfl _ _ _ _ rfl _ _ rfl rfl _ _ hrun2 ?_)
  have hAp2 : ∀ q, blkOf A2 = some q → blkOf Ap = some q ∨ q = (w1.setCell ⟨g, 3, none⟩ (.slice A1 (n + m) d1)).heap.size := fun q hq => by
    rcases hat2 with e2 | e2
    · exact .inl (e2 ▸ hq)
    · rw [e2] at hq; injection hq with hq; exact .inr hq.symm
  have hsz1 := hk1s.size
  have hsz2 : (w1.setCell ⟨g, 3, none⟩ (.slice A1 (n + m) d1)).heap.size = w1.heap.size := by simp [World.setCell]
  have hA1lt : ∀ q, blkOf A1 = some q → q < w1.heap.size := fun q hq => (ho1.2.lt hq).2
  have hA2g : blkOf A2 ≠ some g := fun e2 => by
    rcases hAp2 g e2 with e3 | e3
    · exact h.d2 e3
    · omega
  have hd4 : ∀ q, blkOf A1 = some q → blkOf A2 ≠ some q := fun q hq e2 => by
    have l1 := hA1lt q hq
    rcases hAp2 q e2 with e3 | e3
    · rcases hA1 q hq with e4 | e4
      · exact h.d4 q e4 e3
      · have := (h.ownp.2.lt e3).2; omega
    · omega
  have hoA : OwnI .u8 w2 b0 5 A1 (n + m) d1 (st.D.drop st.base ++ x) := hk2.ownI (ho1.far (p := ⟨g, 3, none⟩) hA1g _) fun q hq e2 => by
    rcases hA1 q hq with e4 | e4
    · exact h.d4 q e4 e2
    · have := (h.ownp.2.lt e2).2; omega
  have hk3 := (hk1s.trans hk2 fun k hk => .inl (.inr (.inr hk))).setCell (p := ⟨g, 7, none⟩) (.inl (.inl rfl)) (.slice A2 (np + m) d2)
  have hgrow := growF_ok h.ok x
  obtain ⟨h3, hc3, hF3⟩ := h.rows (st' := growF st x) (A' := A1) (n' := n + m) (c' := d1) (Ap' := A2) (np' := np + m) (cp' := d2)
    ((har2.set_ (i := 7) (by omega) (.slice A2 (np + m) d2)).congr fun j hj => by
      obtain rfl | rfl | rfl | rfl | rfl | rfl | rfl | rfl : j = 0 ∨ j = 1 ∨ j = 2 ∨ j = 3 ∨ j = 4 ∨ j = 5 ∨ j = 6 ∨ j = 7 := by omega
      all_goals rfl)
    (by
      have e2 : (growF st x).D.drop (growF st x).base = st.D.drop st.base ++ x := List.drop_append_of_le_length h.base_le
      rw [e2]; exact hoA.far (p := ⟨g, 7, none⟩) hA1g _)
    (by
      have e2 : (growF st x).P.drop (growF st x).base = st.P.drop st.base ++ List.replicate x.length 0 := List.drop_append_of_le_length (by rw [h.ok.len]; exact h.base_le)
      rw [e2, ← HM.out]; exact ho2.far (p := ⟨g, 7, none⟩) hA2g _)
    hk3 rfl (fun q hq => by
      rcases hA1 q hq with e4 | e4
      · exact .inl e4
      · exact .inr (by omega)) (fun q hq => by
      rcases hAp2 q hq with e4 | e4
      · exact .inl e4
      · exact .inr (by omega)) hd4 hgrow (fun v hv => by
      rcases List.mem_append.1 hv with h5 | h5
      · exact h.by_ v h5
      · exact hby v h5) (by show (st.D ++ x).length ≤ _; rw [List.length_append, ← HM.out]; exact hlen)
  generalize w2.setCell ⟨g, 7, none⟩ (.slice A2 (np + m) d2) = w3 at *
  clear hk3 hoA hA2g hA1lt hsz1 hsz2 hAp2 hat2 hg2 ho2 hrun2 hk2 har1s har2 c32 c72 z72 c71 hownp1 hA1g hA1 hb1s hk1s hd4 hgrow
  have hwr : writeF st x = { growF st x with base := if 131072 < (st.D ++ x).length - st.base ∧ 32768 < st.at_ - st.base then st.at_ - 32768 else st.base } := rfl
  have hnl : n + m = (st.D ++ x).length - st.base := by rw [List.length_append, ← HM.out]; have := HN.out; omega
  rw [← hnl] at hwr
  have HW := Lib.hid hwr
  obtain ⟨c0, c1, c2, c3, c4, c5, c6, c7⟩ := ff_c h3
  replace c4 : w3.cell? ⟨g, 4, none⟩ = some (.int .i64 st.base) := c4
  replace c5 : w3.cell? ⟨g, 5, none⟩ = some (.int .i64 st.at_) := c5
  have hlo := h.ok.lo
  have hhi := h.ok.hi
  obtain ⟨Bs, hBs⟩ : ∃ Bs, st.base = Bs := ⟨_, rfl⟩
  obtain ⟨T, hT⟩ : ∃ T, st.at_ = T := ⟨_, rfl⟩
  obtain ⟨N, hN⟩ : ∃ N, n + m = N := ⟨_, rfl⟩
  rw [hBs] at c4 hlo
  rw [hT] at c5 hlo hhi
  rw [hN] at c3
  have hNI : (N : Int) ≤ 100000000000 ∧ (0 : Int) ≤ N := by omega
  have hTI : (0 : Int) ≤ Bs ∧ (Bs : Int) ≤ (T : Int) ∧ (T : Int) ≤ 100000000000 := by omega
  have hw1 : IntKind.i64.wrap ((T : Int) - (Bs : Int)) = (T : Int) - (Bs : Int) := by rw [IntWalk.i64_in _ (by omega)]
  have HBS := Lib.hid hBs
  have HT := Lib.hid hT
  have HNN := Lib.hid hN
  clear hwr hnl hBs hT hN z31 ho1 hg1 hat1 z3
  by_cases hc1 : 131072 < N
  · have hc1I : (131072 : Int) < (N : Int) := by omega
    by_cases hc2 : 32768 < T - Bs
    · obtain ⟨cut, hcut⟩ : ∃ cut, T - Bs - 32768 = cut := ⟨_, rfl⟩
      have hcutI : (T : Int) - (Bs : Int) - 32768 = (cut : Int) ∧ (0 : Int) < cut := by omega
      have hE : Hid (writeF st x = { growF st x with base := T - 32768 }) := by show _ = _; rw [HW.out, HNN.out, HT.out, HBS.out, if_pos ⟨hc1, hc2⟩]
      have hbc : Hid (T - 32768 = Bs + cut) := by show _ = _; omega
      have hok2 := h.ok.write x
      rw [hE.out] at hok2
      have hok' := Lib.hid hok2
      clear hok2
      have hcN : cut ≤ N := by have := HN.out; have := HBS.out; have := HNN.out; omega
      have hcp : cut ≤ np + m := by have := HNP.out; have := HNN.out; omega
      have hcI : (cut : Int) ≤ (N : Int) ∧ (cut : Int) ≤ ((np + m : Nat) : Int) := by omega
      have hNP2 : np + m ≤ 100000000000 := by have := HNP.out; omega
      clear hcut
      go_wp2_with fail
      go_quiet (fail)
      have h4 := h3.drewN nq
      have hc4 := hc3.drewN nq
      obtain ⟨c0, c1, c2, c3, c4, c5, c6, c7⟩ := ff_c h4
      replace c4 : (w3.drewN nq).cell? ⟨g, 4, none⟩ = some (.int .i64 st.base) := c4
      rw [HNN.out] at c3
      rw [HBS.out] at c4
      have hsz4 : w3.heap.size = (w3.drewN nq).heap.size := rfl
      generalize w3.drewN nq = w4 at *
      have hgs4 := h4.cell.lt
      have hb04 : b0 ≤ w4.heap.size := Nat.le_trans h4.lo (Nat.le_of_lt hgs4)
      have hsl := run_slice_from (P := Try.prog) 22 5 Try.underlying22 Ki.out Kz1.out A1 N d1 hcN
      have hsl2 := run_slice_from (P := Try.prog) 32 3 Try.underlying32 Hi.out Hz1.out A2 (np + m) d2 hcp
      have hrA := (((h4.own.rd).cutA (j := cut) (by have := HNN.out; omega) h4.own.2.capLe).alloc (Nat.le_refl _) (.cells #[] 5))
      have hoL := OwnI.lit (k := .u8) (w := w4) (b0 := b0) rfl [] 5 hb04 (by simp)
      have z3 := h4.cell.frozen' (i := 3) (by omega)
      have hAg := h4.d1
      have hApg := h4.d2
      rw [HNN.out] at hrA
      have hb0a : b0 ≤ (w4.alloc (.cells #[] 5)).heap.size := by simp; omega
      have hsw : Hid (w.heap.size ≤ w4.heap.size) := hc4.size
      have hcut0 : (0 : Int) < cut := hcutI.2
      have HTT : Hid (T ≤ 100000000000) := by show _ ≤ _; omega
      have HNP2 := Lib.hid hNP2
      have HCI := Lib.hid hcI
      have HNI := Lib.hid hNI
      have hcutn : 0 < cut := by omega
      clear hc3 hcI hNI hcutI hNP2 hw1 hTI hnmI hsz4 hc2 hcN hcp hlo hhi hlen hn1
      go_upto_region 6 with (at_builtin; (refine wpList_app .u8 b0 5 i1 1 rfl (.tmp 47) (.tmp 53) _ rfl Try.underlying22 Ki.out Kz0.out Kz1.out Kz2.out rfl hoL rfl hrA (by have := HNI.out; simp; omega) (by omega) hb0a ?_)
                             intro A5 d5 w5 ho5 hg5 hat5
                             have hb5 : Below w4.heap.size w4 w5 := ((Below.refl _ w4).alloc (Nat.le_refl _) (.cells #[] 5)).grown hg5 (by simp) (by simp [blkOf])
                             have har5 := (h4.keeps hb5).cell
                             have z35 := har5.frozen' (i := 3) (by omega)
                             have c35 := har5.cell (i := 3) (by omega))
      have hgs5 := har5.lt
      rw [List.nil_append, Nat.zero_add] at ho5
      have hA5 : ∀ q, blkOf A5 = some q → q = w4.heap.size ∨ q = w4.heap.size + 1 := fun q hq => by
        rcases hat5 with e2 | e2
        · rw [e2] at hq; simp [blkOf] at hq; exact .inl hq.symm
        · rw [e2] at hq; simp at hq; exact .inr hq.symm
      have hl5 : ∀ q, blkOf A5 = some q → q < w5.heap.size := fun q hq => (ho5.2.lt hq).2
      have hk5 : Chg w4 (w5.setCell ⟨g, 3, none⟩ (.slice A5 (N - cut) d5)) (fun k => k = g ∨ blkOf A1 = some k ∨ blkOf A2 = some k) := (Chg.of_below hb5).setCell (p := ⟨g, 3, none⟩) (.inl (.inl rfl)) _
      have har6 := har5.set_ (i := 3) (by omega) (.slice A5 (N - cut) d5)
      have hop5 : OwnI .i64 (w5.setCell ⟨g, 3, none⟩ (.slice A5 (N - cut) d5)) b0 3 A2 (np + m) d2 ((growF st x).P.drop (growF st x).base) := ((h4.keeps hb5).ownp).far (p := ⟨g, 3, none⟩) hApg _
      have hA5g : blkOf A5 ≠ some g := fun e2 => by rcases hA5 g e2 with e3 | e3 <;> omega
      have ho6 := ho5.far (p := ⟨g, 3, none⟩) hA5g (.slice A5 (N - cut) d5)
      have hsz6 : (w5.setCell ⟨g, 3, none⟩ (.slice A5 (N - cut) d5)).heap.size = w5.heap.size := by simp [World.setCell]
      have c76 := har6.cell (i := 7) (by omega)
      rw [upd_other _ _ (by omega)] at c76
      replace c76 : _ = some (Value.slice A2 (np + m) d2) := c76
      generalize w5.setCell ⟨g, 3, none⟩ (.slice A5 (N - cut) d5) = w6 at *
      have hgs6 := har6.lt
      have hs46 : w4.heap.size ≤ w6.heap.size := hk5.size
      have hb06 : b0 ≤ w6.heap.size := by omega
      have hb0b : b0 ≤ (w6.alloc (.cells #[] 3)).heap.size := by simp; omega
      have hrP := (((hop5.rd).cutA (j := cut) (by have := HCI.out; omega) hop5.2.capLe).alloc (Nat.le_refl _) (.cells #[] 3))
      have hoM := OwnI.lit (k := .i64) (w := w6) (b0 := b0) (g := w5.heap.size) hsz6.symm [] 3 hb06 (by simp)
      have z76 := har6.frozen' (i := 7) (by omega)
      clear c0 c1 c2 c3 c4 c5 c6 c7 z3 z35 c35 hg5 hrA hoL ho5 hat5 hsl hb0a har5
      go_upto_region 7 with (at_builtin; (refine wpList_app .i64 b0 3 i0 8 rfl (.tmp 58) (.tmp 64) _ rfl Try.underlying32 Hi.out Hz0.out Hz1.out Hz2.out rfl hoM rfl hrP (by have := HNP2.out; simp; omega) (by omega) hb0b ?_)
                             intro A7 d7 w7 ho7 hg7 hat7
                             have hb7 : Below w6.heap.size w6 w7 := ((Below.refl _ w6).alloc (Nat.le_refl _) (.cells #[] 3)).grown hg7 (by simp) (fun q hq => by simp [blkOf] at hq; omega)
                             have har7 := har6.keeps hb7
                             have z77 := har7.frozen' (i := 7) (by omega)
                             have c77 := har7.cell (i := 7) (by omega)
                             have c47 := har7.cell (i := 4) (by omega)
                             have z47 := har7.frozen' (i := 4) (by omega))
      rw [List.nil_append, Nat.zero_add] at ho7
      have hgs7 := har7.lt
      have hA7 : ∀ q, blkOf A7 = some q → w6.heap.size ≤ q := fun q hq => by
        rcases hat7 with e2 | e2
        · rw [e2] at hq; simp [blkOf] at hq; omega
        · rw [e2] at hq; simp at hq; omega
      have hA7g : blkOf A7 ≠ some g := fun e2 => by have := hA7 g e2; omega
      have hk7 : Chg w4 ((w7.setCell ⟨g, 7, none⟩ (.slice A7 (np + m - cut) d7)).setCell ⟨g, 4, none⟩ (.int .i64 ((Bs : Int) + (cut : Int)))) (fun k => k = g ∨ blkOf A1 = some k ∨ blkOf A2 = some k) :=
        ((hk5.trans (Chg.of_below (S := fun k => k = g ∨ blkOf A1 = some k ∨ blkOf A2 = some k) hb7) fun k hk => .inl hk).setCell (p := ⟨g, 7, none⟩) (.inl (.inl rfl)) _).setCell (p := ⟨g, 4, none⟩) (.inl (.inl rfl)) _
      have ho8 := (((ho6.keeps hb7).far (p := ⟨g, 7, none⟩) hA5g (.slice A7 (np + m - cut) d7)).far (p := ⟨g, 4, none⟩) hA5g (.int .i64 ((Bs : Int) + (cut : Int))))
      have ho9 := ((ho7.far (p := ⟨g, 7, none⟩) hA7g (.slice A7 (np + m - cut) d7)).far (p := ⟨g, 4, none⟩) hA7g (.int .i64 ((Bs : Int) + (cut : Int))))
      have har8 := (har7.set_ (i := 7) (by omega) (.slice A7 (np + m - cut) d7)).set_ (i := 4) (by omega) (.int .i64 ((Bs : Int) + (cut : Int)))
      obtain ⟨r1, r2, r3⟩ := h4.rows (st' := { growF st x with base := T - 32768 }) (A' := A5) (n' := N - cut) (c' := d5) (Ap' := A7) (np' := np + m - cut) (cp' := d7)
        (har8.congr fun j hj => by
          obtain rfl | rfl | rfl | rfl | rfl | rfl | rfl | rfl : j = 0 ∨ j = 1 ∨ j = 2 ∨ j = 3 ∨ j = 4 ∨ j = 5 ∨ j = 6 ∨ j = 7 := by omega
          case inr.inr.inr.inr.inl => show Value.int .i64 ((Bs : Int) + (cut : Int)) = Value.int .i64 ((T - 32768 : Nat) : Int); rw [hbc.out, Int.natCast_add]
          all_goals rfl)
        (by
          have e2 : ({ growF st x with base := T - 32768 } : FSt).D.drop ({ growF st x with base := T - 32768 } : FSt).base = (((growF st x).D.drop (growF st x).base).drop cut) := by
            show (growF st x).D.drop (T - 32768) = _
            rw [List.drop_drop, hbc.out, ← HBS.out]; rfl
          rw [e2]; exact ho8)
        (by
          have e2 : ({ growF st x with base := T - 32768 } : FSt).P.drop ({ growF st x with base := T - 32768 } : FSt).base = (((growF st x).P.drop (growF st x).base).drop cut) := by
            show (growF st x).P.drop (T - 32768) = _
            rw [List.drop_drop, hbc.out, ← HBS.out]; rfl
          rw [e2]; exact ho9)
        hk7 rfl (fun q hq => .inr (by rcases hA5 q hq with e2 | e2 <;> omega)) (fun q hq => .inr (by have := hA7 q hq; omega))
        (fun q hq e2 => by have := hl5 q hq; have := hA7 q e2; omega) hok'.out h4.by_ h4.big
      have c47b : w7.cell? ⟨g, 4, none⟩ = some (.int .i64 Bs) := by rw [c47, upd_other _ _ (by omega)]; show some (Value.int .i64 (st.base : Int)) = _; rw [HBS.out]
      have hsumI : (Bs : Int) + (cut : Int) ≤ 100000000000 ∧ (0 : Int) ≤ (Bs : Int) := by have := hbc.out; have := HTT.out; omega
      have hFin : FWritePost w b0 g e (writeF st x) A gm Ap (.returned (.tuple #[])) ((w7.setCell ⟨g, 7, none⟩ (.slice A7 (np + m - cut) d7)).setCell ⟨g, 4, none⟩ (.int .i64 ((Bs : Int) + (cut : Int)))) := by
        refine ⟨rfl, A5, N - cut, d5, A7, np + m - cut, d7, nm, Dm, by rw [hE.out]; exact r1, hc4.trans r2 fun k hk => ?_, fun k hk => ?_⟩
        · rcases hF3 k hk with e2 | e2
          · exact .inl e2
          · exact .inr e2
        · rcases r3 k hk with e2 | e2
          · exact hF3 k e2
          · exact .inr (Nat.le_trans hsw.out e2)
      clear r1 r2 r3 har8 ho8 ho9 hk7 c47 hcutn hc1 hrP hoM hg7 hat7 ho7
      go_wp2_with fail
      go_returns
      exact hFin
    · have hc2I : ¬ 0 < (T : Int) - (Bs : Int) - 32768 := by omega
      have hE : Hid (writeF st x = growF st x) := by show _ = _; rw [HW.out, HNN.out, HT.out, HBS.out, if_neg (fun h => hc2 h.2), ← HBS.out]; rfl
      go_wp2_with fail
      go_quiet (fail)
      go_wp2_with fail
      go_returns
      exact ⟨rfl, A1, n + m, d1, A2, np + m, d2, nm, Dm, by rw [hE.out]; exact h3.drewN _, hc3.drewN _, hF3⟩
  · have hc1I : ¬ (131072 : Int) < (N : Int) := by omega
    have hE : Hid (writeF st x = growF st x) := by show _ = _; rw [HW.out, HNN.out, HT.out, HBS.out, if_neg (fun h => hc1 h.1), ← HBS.out]; rfl
    go_wp2_with fail
    go_quiet (fail)
    go_wp2_with fail
    go_returns
    exact ⟨rfl, A1, n + m, d1, A2, np + m, d2, nm, Dm, by rw [hE.out]; exact h3.drewN _, hc3.drewN _, hF3⟩
end
end Go.Proofs.Ytlgkiookobedcaa
namespace Go.Proofs.Ytlgkiookobedcaa
open Go.RowKit Go.Maps
set_option linter.unusedVariables false
set_option maxHeartbeats 4000000 in
theorem of_any (level : Int) (w : World) (hl : -9223372036854775808 ≤ level ∧ level ≤ 9223372036854775807) : Calls Try.prog 39 #[.int .i64 level] w fun r w' => r = .returned (.agg #[.int .i64 (effOf level).chain, .int .i64 (effOf level).nice, .bool (effOf level).lazy]) ∧ Below w.heap.size w w' := by
  have hcs : level < 0 ∨ level = 0 ∨ level = 1 ∨ level = 2 ∨ level = 3 ∨ level = 4 ∨ level = 5 ∨ level = 6 ∨ level = 7 ∨ level = 8 ∨ level = 9 ∨ 9 < level := by omega
  rcases hcs with h | h | h | h | h | h | h | h | h | h | h | h
  · have hE : Hid (effOf level = ⟨0, 0, false⟩) := by show _ = _; unfold effOf; rw [if_pos (by omega)]
    go_enter Try.func39, Try.ntmps39
    go_wp2_with fail
    all_goals
      go_returns
      rw [hE.out]
      exact ⟨rfl, (Below.refl _ _).alloc (Nat.le_refl _) _⟩
  · subst h
    have hE : Hid (effOf 0 = ⟨0, 0, false⟩) := rfl
    go_enter Try.func39, Try.ntmps39
    go_wp2_with fail
    all_goals
      go_returns
      rw [hE.out]
      exact ⟨rfl, (Below.refl _ _).alloc (Nat.le_refl _) _⟩
  · subst h
    have hE : Hid (effOf 1 = ⟨4, 8, false⟩) := rfl
    go_enter Try.func39, Try.ntmps39
    go_wp2_with fail
    all_goals
      go_returns
      rw [hE.out]
      exact ⟨rfl, (Below.refl _ _).alloc (Nat.le_refl _) _⟩
  · subst h
    have hE : Hid (effOf 2 = ⟨8, 16, false⟩) := rfl
    go_enter Try.func39, Try.ntmps39
    go_wp2_with fail
    all_goals
      go_returns
      rw [hE.out]
      exact ⟨rfl, (Below.refl _ _).alloc (Nat.le_refl _) _⟩
  · subst h
    have hE : Hid (effOf 3 = ⟨16, 32, false⟩) := rfl
    go_enter Try.func39, Try.ntmps39
    go_wp2_with fail
    all_goals
      go_returns
      rw [hE.out]
      exact ⟨rfl, (Below.refl _ _).alloc (Nat.le_refl _) _⟩
  · subst h
    have hE : Hid (effOf 4 = ⟨16, 16, true⟩) := rfl
    go_enter Try.func39, Try.ntmps39
    go_wp2_with fail
    all_goals
      go_returns
      rw [hE.out]
      exact ⟨rfl, (Below.refl _ _).alloc (Nat.le_refl _) _⟩
  · subst h
    have hE : Hid (effOf 5 = ⟨24, 32, true⟩) := rfl
    go_enter Try.func39, Try.ntmps39
    go_wp2_with fail
    all_goals
      go_returns
      rw [hE.out]
      exact ⟨rfl, (Below.refl _ _).alloc (Nat.le_refl _) _⟩
  · subst h
    have hE : Hid (effOf 6 = ⟨32, 128, true⟩) := rfl
    go_enter Try.func39, Try.ntmps39
    go_wp2_with fail
    all_goals
      go_returns
      rw [hE.out]
      exact ⟨rfl, (Below.refl _ _).alloc (Nat.le_refl _) _⟩
  · subst h
    have hE : Hid (effOf 7 = ⟨64, 128, true⟩) := rfl
    go_enter Try.func39, Try.ntmps39
    go_wp2_with fail
    all_goals
      go_returns
      rw [hE.out]
      exact ⟨rfl, (Below.refl _ _).alloc (Nat.le_refl _) _⟩
  · subst h
    have hE : Hid (effOf 8 = ⟨128, 258, true⟩) := rfl
    go_enter Try.func39, Try.ntmps39
    go_wp2_with fail
    all_goals
      go_returns
      rw [hE.out]
      exact ⟨rfl, (Below.refl _ _).alloc (Nat.le_refl _) _⟩
  · subst h
    have hE : Hid (effOf 9 = ⟨256, 258, true⟩) := rfl
    go_enter Try.func39, Try.ntmps39
    go_wp2_with fail
    all_goals
      go_returns
      rw [hE.out]
      exact ⟨rfl, (Below.refl _ _).alloc (Nat.le_refl _) _⟩
  · have hE : Hid (effOf level = ⟨256, 258, true⟩) := by show _ = _; unfold effOf; rw [if_neg (by omega), if_neg (by omega), if_neg (by omega), if_neg (by omega), if_neg (by omega), if_neg (by omega), if_neg (by omega), if_neg (by omega), if_neg (by omega)]
    go_enter Try.func39, Try.ntmps39
    go_wp2_with fail
    all_goals
      go_returns
      rw [hE.out]
      exact ⟨rfl, (Below.refl _ _).alloc (Nat.le_refl _) _⟩
def NewPost (w : World) (e : Eff) (r : Ending) (w' : World) : Prop := ∃ (g gm : Nat), r = .returned (.pointer (some ⟨g, 0, none⟩)) ∧ FndC w' w.heap.size g e newF 0 none 0 0 gm 0 (.map []) none 0 0 ∧ Below w.heap.size w w'
set_option maxHeartbeats 1600000 in
theorem fnew_any (level : Int) (w : World) (hl : -9223372036854775808 ≤ level ∧ level ≤ 9223372036854775807) : Calls Try.prog 22 #[.int .i64 level] w (NewPost w (effOf level)) := by
  have hmm := @run_makeMap Try.prog
  have heb := effOf_bd level
  obtain ⟨E, hE⟩ : ∃ E, effOf level = E := ⟨_, rfl⟩
  have hof := of_any level w hl
  rw [hE] at hof heb ⊢
  clear hE
  go_enter Try.func22, Try.ntmps22
  go_wp2_with fail
  refine hof.mono ?_
  rintro r w1 ⟨rfl, hb1⟩
  obtain ⟨ch, nc, lz⟩ := E
  dsimp only at heb ⊢
  have hmap := World.ownsMap_made (H := Unit) w1 Try.prog 47 (plainElem Try.prog 3)
  go_wp2_with fail
  go_returns
  refine ⟨w1.heap.size + 1, w1.heap.size, rfl, ⟨?_, by have := hb1.size; omega, OwnI.nil_, OwnI.nil_, hmap.alloc _, HeadRep.new, hb1.size, Nat.le_refl _, by simp [blkOf], by simp [blkOf], by omega, by simp [blkOf], by simp [blkOf], by simp [blkOf], Ok.new, fun x hx => by simp [newF] at hx, heb, by simp [newF]⟩, (hb1.alloc hb1.size _).alloc (by have := hb1.size; simp; omega) _⟩
  have hsz : (w1.alloc (.map #[] 0)).heap.size = w1.heap.size + 1 := by simp
  rw [← hsz]
  exact Ar.new _ _ _ rfl fun i hi => by
    obtain rfl | rfl | rfl | rfl | rfl | rfl | rfl | rfl : i = 0 ∨ i = 1 ∨ i = 2 ∨ i = 3 ∨ i = 4 ∨ i = 5 ∨ i = 6 ∨ i = 7 := by omega
    all_goals rfl
end Go.Proofs.Ytlgkiookobedcaa
