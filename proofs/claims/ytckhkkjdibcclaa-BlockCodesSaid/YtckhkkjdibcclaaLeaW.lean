/-
  The walk of the reference's Least.
-/
import Derived.Test.YtckhkkjdibcclaaProg
import Derived.Test.YtckhkkjdibcclaaLeaM
import Derived.BigRegion
namespace Go.Proofs.Ytckhkkjdibcclaa
open Go.RowKit
set_option linter.unusedVariables false
theorem lrow_info : (Try.prog.info? 25).map (fun i => (i.zero, i.size, i.bytes)) = some (some (.slice none 0 0), 1, 24) := by kernel_rfl
theorem ins_at {li : List Int} {k : Nat} (h : k < li.length) (z : Int) : ix (li.take (k + 1) ++ z :: li.drop (k + 1)) k = ix li k := by
  rw [ix_append, if_pos (by rw [List.length_take]; omega)]
  unfold ix
  simp
theorem ins_set {li : List Int} {k : Nat} (h : k < li.length) (z : Int) : (li.take (k + 1) ++ z :: li.drop (k + 1)).set (k + 1) (ix li k) = li.take k ++ ix li k :: li.drop k := by
  have e : li[k] = ix li k := by simp [ix, h]
  rw [List.set_append_right _ _ (by rw [List.length_take]; omega), List.length_take, Nat.min_eq_left (by omega), Nat.sub_self, List.set_cons_zero, List.take_succ_eq_append_getElem h, e, List.append_assoc, List.drop_eq_getElem_cons h, e]
  rfl
theorem ins_fin {li : List Int} {k : Nat} (h : k ≤ li.length) (z x : Int) : (li.take k ++ z :: li.drop k).set k x = li.take k ++ x :: li.drop k := by
  rw [List.set_append_right _ _ (by rw [List.length_take]; omega), List.length_take, Nat.min_eq_left h, Nat.sub_self, List.set_cons_zero]
theorem ins_perm (li : List Int) (k : Nat) (x : Int) : (li.take k ++ x :: li.drop k).Perm (li ++ [x]) := by
  have h : (li.take k ++ x :: li.drop k).Perm (x :: (li.take k ++ li.drop k)) := List.perm_middle
  rw [List.take_append_drop] at h
  exact h.trans (List.perm_append_comm (l₁ := [x]) (l₂ := li))
theorem ins_sorted {li : List Int} {k : Nat} {x : Int} (hs : li.Pairwise fun a b => b ≤ a) (hk : k ≤ li.length) (h1 : k = 0 ∨ x ≤ ix li (k - 1)) (h2 : ∀ y ∈ li.drop k, y < x) : (li.take k ++ x :: li.drop k).Pairwise fun a b => b ≤ a := by
  have hs2 := hs
  rw [← List.take_append_drop k li, List.pairwise_append] at hs2
  rw [List.pairwise_append, List.pairwise_cons]
  have hx : ∀ a ∈ li.take k, x ≤ a := fun a ha => by
    obtain ⟨j, hj, rfl⟩ := List.getElem_of_mem ha
    rw [List.length_take] at hj
    rw [List.getElem_take]
    rcases h1 with h1 | h1
    · omega
    · have e : ix li (k - 1) = li[k - 1] := by simp [ix, show k - 1 < li.length by omega]
      rw [e] at h1
      by_cases e2 : j = k - 1
      · subst e2; exact h1
      · exact Int.le_trans h1 (List.pairwise_iff_getElem.1 hs j (k - 1) (by omega) (by omega) (by omega))
  refine ⟨hs2.1, ⟨fun y hy => by have := h2 y hy; omega, hs2.2.1⟩, fun a ha b hb => ?_⟩
  rcases List.mem_cons.1 hb with rfl | hb
  · exact hx a ha
  · exact hs2.2.2 a ha b hb
def LInsR (w : World) (f : List Int) (n : Nat) (k : Nat) (v5 v6 : Value) (wr : World) : Prop :=
  ∃ (i : Nat) (A : Option Addr) (q c : Nat) (li : List Int), v5 = .slice A q c ∧ v6 = .int .i64 i ∧ i ≤ n ∧ q ≤ i ∧ Hid (OwnI .i64 wr w.heap.size 3 A q c li) ∧ Hid (li.Perm ((posI f i).map (fqI f)) ∧ li.Pairwise fun a b => b ≤ a) ∧ Hid (Below w.heap.size w wr) ∧ Hid (k = n - i)
def LInnR (w : World) (g q N c : Nat) (li : List Int) (x : Int) (kk : Nat) (v7 : Value) (wr : World) : Prop :=
  ∃ (k : Nat) (z : Int), v7 = .int .i64 k ∧ k ≤ q ∧ Hid (OwnI .i64 wr w.heap.size 3 (some ⟨g, 0, none⟩) N c (li.take k ++ z :: li.drop k)) ∧ Hid (∀ y ∈ li.drop k, y < x) ∧ Hid (Below w.heap.size w wr) ∧ Hid (kk = k)
def LeastPost (w : World) (f : List Int) (n m : Nat) (F : Int) (e : Ending) (w' : World) : Prop :=
  ∃ V l, e = .returned (.int .i64 V) ∧ Below w.heap.size w w' ∧ l.Perm ((posI f n).map (fqI f)) ∧ (l.Pairwise fun a b => b ≤ a) ∧ (V = F ∨ GoodD l m l.length 0 V) ∧ ∀ v, Rch l l.length m l.length 0 v → V ≤ v
theorem OwnI.at0 {k : IntKind} {w : World} {b0 g n c : Nat} {e : TypeId} {l : List Int} (h : OwnI k w b0 e (some ⟨g, 0, none⟩) n c l) {i : Nat} (hi : i < n) : w.cell? ⟨g, i, none⟩ = some (.int k (ix l i)) := h.2.cell (by omega)
def DpR (w : World) (A : Option Addr) (q c N : Nat) (li : List Int) (F : Int) (m : Nat) (gk : Nat) (v10 v13 : Value) (wx : World) : Prop :=
  ∃ (d e g : Nat) (M : Nat → Nat → Int), v10 = .slice (some ⟨g, 0, none⟩) N N ∧ v13 = .int .i64 (e : Nat) ∧ Hid (e = d + 1) ∧ d ≤ m ∧ Hid (Mx wx g q M) ∧ Hid (OwnI .i64 wx w.heap.size 3 A q c li) ∧ Hid (Below w.heap.size w wx) ∧
    Hid ((∀ x, blkOf A = some x → x < g) ∧ w.heap.size ≤ g) ∧ Hid (SndM li F d q M ∧ LeM li d q M) ∧ Hid (gk = m - d)
/-- the two tables and the list, while the second is filled -/
structure TwM (w wx : World) (g1 g2 q : Nat) (M N : Nat → Nat → Int) (A : Option Addr) (c : Nat) (li : List Int) : Prop where
  m1 : Mx wx g1 q M
  m2 : Mx wx g2 q N
  own : OwnI .i64 wx w.heap.size 3 A q c li
  bel : Below w.heap.size w wx
  ab : (∀ x, blkOf A = some x → x < g1) ∧ w.heap.size ≤ g1
  ap : g1 + q + 1 < g2
theorem TwM.set_ {w wx : World} {g1 g2 q : Nat} {M N : Nat → Nat → Int} {A : Option Addr} {c : Nat} {li : List Int} (h : TwM w wx g1 g2 q M N A c li) {i k : Nat} (hi : i ≤ q) (hk : k ≤ q) (v : Int) :
    TwM w (wx.setCell ⟨g2 + 1 + i, k, none⟩ (.int .i64 v)) g1 g2 q M (updM N i k v) A c li :=
  ⟨h.m1.far (p := ⟨g2 + 1 + i, k, none⟩) (.inr (by have := h.ap; show g1 + q + 1 < g2 + 1 + i; omega)) _, h.m2.set_ hi hk v, h.own.far (p := ⟨g2 + 1 + i, k, none⟩) (fun e => by have := h.ab.1 _ e; have := h.ap; have : g2 + 1 + i < g1 := h.ab.1 _ e; omega) _,
    h.bel.setCell (p := ⟨g2 + 1 + i, k, none⟩) (by have := h.ab.2; have := h.ap; show w.heap.size ≤ g2 + 1 + i; omega) _, h.ab, h.ap⟩
theorem TwM.drewN {w wx : World} {g1 g2 q : Nat} {M N : Nat → Nat → Int} {A : Option Addr} {c : Nat} {li : List Int} (h : TwM w wx g1 g2 q M N A c li) (n : Nat) : TwM w (wx.drewN n) g1 g2 q M N A c li :=
  ⟨h.m1.drewN n, h.m2.drewN n, h.own.drewN n, below_drewN h.bel n, h.ab, h.ap⟩
theorem TwM.drew {w wx : World} {g1 g2 q : Nat} {M N : Nat → Nat → Int} {A : Option Addr} {c : Nat} {li : List Int} (h : TwM w wx g1 g2 q M N A c li) : TwM w wx.drew g1 g2 q M N A c li :=
  ⟨h.m1.drew, h.m2.drew, h.own.drew, h.bel.drew, h.ab, h.ap⟩
def RxA (w : World) (g g2 q : Nat) (M : Nat → Nat → Int) (A : Option Addr) (c : Nat) (li : List Int) (F : Int) (d i k t : Nat) (wx : World) : Prop :=
  ∃ N, TwM w wx g g2 q M N A c li ∧ RlxM li F d q M N i k t
theorem RxA.drewN {w wx : World} {g g2 q c d i k t : Nat} {M : Nat → Nat → Int} {A : Option Addr} {li : List Int} {F : Int} (h : RxA w g g2 q M A c li F d i k t wx) (n : Nat) : RxA w g g2 q M A c li F d i k t (wx.drewN n) := by
  obtain ⟨N, h1, h2⟩ := h
  exact ⟨N, h1.drewN n, h2⟩
set_option maxRecDepth 100000 in
set_option maxHeartbeats 8000000 in
theorem least_any (w : World) (C : Option Addr) (n d : Nat) (f : List Int) (hr : RdI .i64 w w.heap.size C n f) (m : Nat) (hm : 1 ≤ m ∧ m ≤ 15) (hn : n ≤ 288) (hf : ∀ i, i < n → 0 ≤ ix f i ∧ ix f i ≤ 1048576) (h2 : 2 ≤ (posI f n).length ∧ (posI f n).length ≤ 60) :
    Calls Try.prog 12 #[.slice C n d, .int .i64 m] w (LeastPost w f n m 1152921504606846976) := by
  obtain ⟨i0, hi, hz0, hz1, hz2⟩ := info_parts lint_info
  have Hi := Lib.hid hi
  have Hz0 := Lib.hid hz0
  have Hz1 := Lib.hid hz1
  have Hz2 := Lib.hid hz2
  have hnI : (n : Int) ≤ 288 ∧ (0 : Int) ≤ n := by omega
  have HN := Lib.hid hn
  have HF := Lib.hid hf
  have H2 := Lib.hid h2
  have HR := Lib.hid hr
  clear hi hz0 hz1 hz2 hn hf h2 hr
  go_enter Try.func12, Try.ntmps12
  go_wp2_with fail
  go_loopg [5, 6] n (LInsR w f n)
  case atStart => exact ⟨0, none, 0, 0, [], rfl, rfl, Nat.zero_le _, Nat.le_refl _, OwnI.nil_, ⟨List.Perm.refl _, List.Pairwise.nil⟩, Below.refl _ _, rfl⟩
  case round =>
    obtain ⟨i, A, q, c, li, rfl, rfl, hin, hqi, ho, hps, hb, hg⟩ := hrel
    by_cases hlt : i < n
    · have hltI : (i : Int) < (n : Int) ∧ (0 : Int) ≤ i := by omega
      have hq288 : q ≤ 288 ∧ (0 : Int) ≤ q ∧ (q : Int) ≤ 288 := by have := HN.out; omega
      have R := HR.out.below hb.out
      obtain ⟨x, hx⟩ : ∃ x, ix f i = x := ⟨_, rfl⟩
      obtain ⟨ad, rfl, hadb, hcx⟩ := R.at_ hlt
      rw [hx] at hcx
      have HX := Lib.hid (⟨hx, hlt, hadb⟩ : _ ∧ _ ∧ _)
      clear hx hlt R
      by_cases hp : 0 < x
      · have hoA := ho.out.alloc (.cells #[.int .i64 0] 3)
        have hbA := hb.out.alloc hb.out.size (.cells #[.int .i64 0] 3)
        have hal : Hid (RdI .i64 (wr.alloc (.cells #[.int .i64 0] 3)) (wr.heap.size + 1) (some ⟨wr.heap.size, 0, none⟩) 1 [0]) := RdI.lit .i64 wr [0] 3
        go_wp2_with (at_builtin; (refine wpList_app .i64 w.heap.size 3 i0 8 rfl (.tmp 36) (.tmp 37) _ rfl Try.underlying25 Hi.out Hz0.out Hz1.out Hz2.out rfl hoA rfl hal.out (by omega) (by omega) hbA.size ?_)
                     intro A4 d4 w4 hown4 hg4 hat4)
        have hb4 := hbA.grown hg4 hbA.size fun q hq => (ho.out.2.lt hq).1
        obtain ⟨N, hN⟩ : ∃ N, q + 1 = N := ⟨_, rfl⟩
        rw [hN] at hown4 ⊢
        obtain ⟨g4, rfl⟩ := hown4.2.addr (by omega)
        have HNq := Lib.hid hN
        have hlq : li.length = q := ho.out.1.symm
        have hcx4 : w4.cell? (ad.add i) = some (.int .i64 x) := by
          have R := HR.out.below hb4
          obtain ⟨ad', e, _, hc⟩ := R.at_ HX.out.2.1
          cases e
          rw [hc, HX.out.1]
        have hst : Hid (OwnI .i64 w4 w.heap.size 3 (some ⟨g4, 0, none⟩) N d4 (li.take q ++ 0 :: li.drop q)) := by
          rw [List.take_of_length_le (by omega), List.drop_eq_nil_of_le (by omega)]; exact hown4
        have HB4 := Lib.hid hb4
        have HLQ := Lib.hid hlq
        clear hoA hbA hal hown4 hg4 hat4 hb4 hlq hcx hN
        go_wp2_with fail
        go_loopg [7] q (LInnR w g4 q N d4 li x)
        case atStart => exact ⟨q, 0, rfl, Nat.le_refl _, hst, fun y hy => by rw [List.drop_eq_nil_of_le (by rw [HLQ.out]; exact Nat.le_refl _)] at hy; simp at hy, HB4, rfl⟩
        case round =>
          clear hst HB4 hcx4
          obtain ⟨k, z, rfl, hkq, ho2, hdr, hb2, hg2⟩ := hrel
          have hcx : wr.cell? (ad.add i) = some (.int .i64 x) := by
            obtain ⟨ad', e, _, hc⟩ := (HR.out.below hb2.out).at_ HX.out.2.1
            cases e
            rw [hc, HX.out.1]
          have hq1 : N = q + 1 := HNq.out.symm
          have hfin : Hid (∀ q0 v6, v6 = .int .i64 ((i + 1 : Nat) : Int) → (k = 0 ∨ x ≤ ix li (k - 1)) → LInsR w f n (n - (i + 1)) (.slice (some ⟨g4, 0, none⟩) N d4) v6 ((wr.drewN q0).setCell ⟨g4, k, none⟩ (.int .i64 x))) := by
            intro q0 v6 hv6 hc
            have h5 := (ho2.out.drewN q0).put (i := k) (by omega) x
            rw [ins_fin (by rw [HLQ.out]; exact hkq)] at h5
            refine ⟨i + 1, _, N, d4, _, rfl, hv6, HX.out.2.1, by omega, h5, ⟨(ins_perm li k x).trans ?_, ins_sorted hps.out.2 (by rw [HLQ.out]; exact hkq) hc hdr.out⟩, (below_drewN hb2.out q0).setCell (p := ⟨g4, k, none⟩) (ho2.out.2.lt rfl).1 _, rfl⟩
            rw [posI, if_pos (by rw [HX.out.1]; exact hp), List.map_append]
            refine hps.out.1.append ?_
            show [x].Perm [fqI f (i : Int)]
            rw [fqI_nat, HX.out.1]
          have ck := ho2.out.at0 (i := k) (by omega)
          have zk := ho2.out.2.frozen k
          rcases Nat.eq_zero_or_pos k with hk0 | hk0
          · have hf2 := Lib.hid (fun q0 v6 h => hfin.out q0 v6 h (.inl hk0))
            have hN0 : (k : Int) < (N : Int) ∧ (0 : Int) ≤ (k : Int) ∧ k < N := by omega
            have hd0 : decide (0 < k) = false := decide_eq_false (by omega)
            clear hfin hq1 hk0 hkq
            go_wp2_with fail
            go_quiet (fail)
            go_wp2_with fail
            go_roundg (n - (i + 1))
            case measure => have := hg.out; have := HX.out.2.1; omega
            case rel => exact hf2.out _ _ (by go_num)
          · obtain ⟨j, hj⟩ : ∃ j, k = j + 1 := ⟨k - 1, by omega⟩
            have hjI : (k : Int) - 1 = (j : Int) ∧ (0 : Int) < (k : Int) ∧ (k : Int) ≤ q ∧ (0 : Int) ≤ j ∧ (j : Int) < (N : Int) ∧ (k : Int) < (N : Int) ∧ j < N ∧ k < N := by omega
            obtain ⟨y, hy⟩ : ∃ y, ix li j = y := ⟨_, rfl⟩
            have cj := ho2.out.at0 (i := j) (by omega)
            rw [show ix (li.take k ++ z :: li.drop k) j = y by rw [hj, ins_at (by rw [HLQ.out]; omega), hy]] at cj
            have HJ := Lib.hid (⟨hj, hy⟩ : _ ∧ _)
            have hnxt : Hid (∀ q0 v7, v7 = .int .i64 (j : Int) → y < x → LInnR w g4 q N d4 li x j v7 ((wr.drewN q0).setCell ⟨g4, k, none⟩ (.int .i64 y))) := by
              intro q0 v7 hv7 hyx
              have h5 := (ho2.out.drewN q0).put (i := k) (by omega) y
              rw [← hy, hj, ins_set (by rw [HLQ.out]; omega), hy, ← hj] at h5
              refine ⟨j, y, hv7, by omega, h5, fun u hu => ?_, (below_drewN hb2.out q0).setCell (p := ⟨g4, k, none⟩) (ho2.out.2.lt rfl).1 _, rfl⟩
              rw [List.drop_eq_getElem_cons (by rw [HLQ.out]; omega)] at hu
              rcases List.mem_cons.1 hu with rfl | hu
              · have e : li[j]'(by rw [HLQ.out]; omega) = ix li j := by simp [ix, show j < li.length by rw [HLQ.out]; omega]
                rw [e, hy]; exact hyx
              · exact hdr.out u (by rw [hj]; exact hu)
            have hfin := Lib.hid (fun q0 v6 h (h2 : ¬ y < x) => hfin.out q0 v6 h (.inr (by rw [show k - 1 = j by omega, hy]; omega)))
            have hg3 : Hid (j < gk) := by show j < gk; have := hg2.out; omega
            obtain ⟨hj1, hj2, hj3, hj4, hj5, hj6, hj7, hj8⟩ := hjI
            clear hj hy hdr ho2 hq1 hkq
            by_cases hyx : y < x
            · have hnxt := Lib.hid (fun q0 v7 h => hnxt.out q0 v7 h hyx)
              clear hfin
              go_wp2_with fail
              go_quiet (fail)
              go_wp2_with fail
              go_roundg j
              case measure => exact hg3.out
              case rel => exact hnxt.out _ _ (by go_num)
            · have hf2 := Lib.hid (fun q0 v6 h => hfin.out q0 v6 h hyx)
              have hyd : decide (y < x) = false := decide_eq_false hyx
              clear hnxt hfin
              go_wp2_with fail
              go_quiet (fail)
              go_wp2_with fail
              go_roundg (n - (i + 1))
              case measure => have := hg.out; have := HX.out.2.1; omega
              case rel => exact hf2.out _ _ (by go_num)
      · have hps2 : posI f (i + 1) = posI f i := by rw [posI, if_neg (by rw [HX.out.1]; exact hp), List.append_nil]
        have HPS := Lib.hid hps2
        clear hps2
        go_wp2_with fail
        go_roundg (n - (i + 1))
        case measure => have := hg.out; have := HX.out.2.1; omega
        case rel => exact ⟨i + 1, A, q, c, li, rfl, by go_num, HX.out.2.1, by omega, ho, by rw [HPS.out]; exact hps, hb, rfl⟩
    · obtain rfl : i = n := by omega
      have hltI : ¬ (i : Int) < (i : Int) := by omega
      have hlen : q = (posI f i).length := by rw [ho.out.1, hps.out.1.length_eq, List.length_map]
      have hq2 : 2 ≤ q ∧ q ≤ 60 := by rw [hlen]; exact H2.out
      have HPS := Lib.hid (⟨hps.out.1, hps.out.2, ho.out.1⟩ : _ ∧ _ ∧ _)
      have hlb : Hid (∀ a ∈ li, 0 ≤ a ∧ a ≤ 1048576) := by
        intro a ha
        obtain ⟨s, hs, rfl⟩ := List.mem_map.1 (hps.out.1.mem_iff.1 ha)
        obtain ⟨j, hj, rfl, _⟩ := (pos_gt _ s).1 hs
        rw [fqI_nat]; exact HF.out j hj
      have hAlt : Hid (∀ q, blkOf A = some q → w.heap.size ≤ q ∧ q < wr.heap.size) := fun q hq => ho.out.2.lt hq
      have hmI : (1 : Int) ≤ m ∧ (m : Int) ≤ 15 := by omega
      have HM := Lib.hid hm
      obtain ⟨N, hN⟩ : ∃ N, q + 1 = N := ⟨_, rfl⟩
      have hNI : (q : Int) + 1 = (N : Int) ∧ (3 : Int) ≤ (N : Int) ∧ (N : Int) ≤ 61 ∧ (2 : Int) ≤ (q : Int) ∧ (q : Int) < (N : Int) := by omega
      have HNN := Lib.hid hN
      have HQ2 := Lib.hid hq2
      obtain ⟨j0, hji, hjz0, hjz1, hjz2⟩ := info_parts lrow_info
      have hmkT : ∀ W, (Instr.makeSlice 67 (.int .i64 (N : Int)) (.int .i64 (N : Int))).run Try.prog W = .ok (.slice (some ⟨W.heap.size, 0, none⟩) N N) (W.alloc (.cells (zrow N (.slice none 0 0)) 25)) := fun W => run_make_zrow (P := Try.prog) 67 25 j0 (.slice none 0 0) Try.underlying67 hji hjz0 hjz1 rfl .i64 .i64 N (by rw [hjz2]; omega) (by omega) W
      have hmkR : ∀ W, (Instr.makeSlice 25 (.int .i64 (N : Int)) (.int .i64 (N : Int))).run Try.prog W = .ok (.slice (some ⟨W.heap.size, 0, none⟩) N N) (W.alloc (.cells (zrow N (.int .i64 0)) 3)) := fun W => run_make_zrow (P := Try.prog) 25 3 i0 (.int .i64 0) Try.underlying25 Hi.out Hz0.out Hz1.out rfl .i64 .i64 N (by rw [Hz2.out]; omega) (by omega) W
      clear hlt hlen hq2 hps hin hqi hg hm hji hjz0 hjz1 hjz2 hN H2 HF
      go_upto_region 13 with fail
      go_cut [9] (fun v wx => ∃ F : Int, v = .int .i64 F ∧ wx = wr ∧ Hid (F = 1152921504606846976))
      case first =>
        go_wp2_with fail
        go_meet
        exact ⟨_, rfl, rfl, rfl⟩
      case rest =>
        obtain ⟨F, rfl, hw, HFF⟩ := hcut
        obtain rfl := hw.symm
        go_upto_region 14 with fail
        go_cut [10] (fun v wx => ∃ g : Nat, v = .slice (some ⟨g, 0, none⟩) N N ∧ MkS wr g wx N F 0)
        case first =>
          as_aux_lemma =>
            go_wp2_with fail
            go_meet
            exact ⟨_, rfl, MkS.begin wr _ N F⟩
        case rest =>
          obtain ⟨g, rfl, hmk⟩ := hcut
          have HMK := Lib.hid hmk
          clear hmk
          obtain ⟨ws, hws⟩ : ∃ ws, ws = wr := ⟨_, rfl⟩
          rw [← hws] at HMK
          have HO0 := Lib.hid (show OwnI .i64 ws w.heap.size 3 A q c li from by rw [hws]; exact ho.out)
          have HB0 := Lib.hid (show Below w.heap.size w ws from by rw [hws]; exact hb.out)
          have HA0 := Lib.hid (show ∀ q, blkOf A = some q → w.heap.size ≤ q ∧ q < ws.heap.size from by rw [hws]; exact hAlt.out)
          clear hws ho hb hAlt
          go_wp2_with fail
          go_loopg [11] N (fun (gk : Nat) (v11 : Value) wx => ∃ i : Nat, v11 = .int .i64 i ∧ i ≤ N ∧ Hid (MkS ws g wx N F i) ∧ Hid (gk = N - i))
          case atStart => exact ⟨0, rfl, Nat.zero_le _, HMK.out, rfl⟩
          case round =>
            clear HMK
            obtain ⟨r, rfl, hrN, hmk, hg⟩ := hrel
            by_cases hlt : r < N
            · have hrI : (r : Int) < (N : Int) ∧ (0 : Int) ≤ (r : Int) ∧ r < N := by omega
              have hrle : (r : Int) ≤ (q : Int) := by omega
              have hrle2 : r ≤ q := by omega
              have hal := (hmk.out.top.alloc (.cells (zrow N (.int .i64 0)) 3))
              have c1 := hal.cell (i := r) hlt
              have z1 := hal.frozen' (i := r) hlt
              rw [show TopV g r N r = .slice none 0 0 by unfold TopV; rw [if_neg (Nat.lt_irrefl _)]] at c1
              have hrow := Lib.hid (hmk.out.row_ hlt 3)
              have HLT := Lib.hid hlt
              clear hal hlt
              go_wp2_with fail
              go_loopg [12] N (fun (gk : Nat) (v12 : Value) wx => ∃ k : Nat, v12 = .int .i64 k ∧ k ≤ N ∧ Hid (MkR ws g wx N F r k) ∧ Hid (gk = N - k))
              case atStart => exact ⟨0, rfl, Nat.zero_le _, hrow.out, rfl⟩
              case round =>
                clear hrow c1 z1
                obtain ⟨k, rfl, hkN, hmr, hg2⟩ := hrel
                by_cases hlk : k < N
                · have hkI : (k : Int) < (N : Int) ∧ (0 : Int) ≤ (k : Int) ∧ k < N := by omega
                  have hkle : (k : Int) ≤ (q : Int) := by omega
                  have hkle2 : k ≤ q := by omega
                  have ct := hmr.out.tcell HLT.out
                  have c2 := hmr.out.row.cell (i := k) hlk
                  have z2 := hmr.out.row.frozen' (i := k) hlk
                  have hput := Lib.hid (hmr.out.put hlk)
                  obtain ⟨b, hb⟩ : ∃ b, g + 1 + r = b := ⟨_, rfl⟩
                  rw [hb] at ct c2 z2 hput
                  clear hb
                  go_wp2_with fail
                  go_roundg (N - (k + 1))
                  case measure => have := hg2.out; omega
                  case rel => exact ⟨k + 1, by go_num, hkI.2.2, hput, rfl⟩
                · obtain rfl : k = N := by omega
                  have hkle : ¬ (k : Int) ≤ (q : Int) := by omega
                  have hkle2 : ¬ k ≤ q := by omega
                  have hfin := Lib.hid hmr.out.fin
                  go_wp2_with fail
                  go_roundg (k - (r + 1))
                  case measure => have := hg.out; omega
                  case rel => exact ⟨r + 1, by go_num, hrI.2.2, hfin, rfl⟩
            · obtain rfl : r = N := by omega
              have hrle : ¬ (r : Int) ≤ (q : Int) := by omega
              have hrle2 : ¬ r ≤ q := by omega
              have hgs : g = ws.heap.size := hmk.out.hg
              have hbel : Below ws.heap.size ws wr := by have := hmk.out.bel; rw [hgs] at this; exact this
              have hmx : Mx wr g q (fun _ _ => F) := by have h := hmk.out; rw [← HNN.out] at h; exact h.fin
              have htop := hmx.top 0 (Nat.zero_le _)
              rw [HNN.out] at htop
              have c1 := hmx.cell (i := 0) (k := 1) (Nat.zero_le _) (by have := HQ2.out; omega)
              have z1 := hmx.frozen (i := 0) (k := 1) (Nat.zero_le _) (by have := HQ2.out; omega)
              have hset := Lib.hid (hmx.set_ (i := 0) (k := 1) (Nat.zero_le _) (by have := HQ2.out; omega) 0)
              obtain ⟨b, hb⟩ : ∃ b, g + 1 + 0 = b := ⟨_, rfl⟩
              rw [hb] at htop c1 z1 hset
              have hbg : w.heap.size ≤ b := by have := HB0.out.size; omega
              have hst : Hid (DpR w A q c r li F m m (.slice (some ⟨g, 0, none⟩) r r) (.int .i64 1) (wr.setCell ⟨b, 1, none⟩ (.int .i64 0))) := by
                refine ⟨0, 1, g, _, rfl, rfl, rfl, Nat.zero_le _, hset.out, ?_, ?_, ?_, ⟨fun i k hi hk => ?_, fun i k v hr hi hk => ?_⟩, rfl⟩
                · exact (HO0.out.keeps hbel).far (p := ⟨b, 1, none⟩) (fun e => by have h := (HA0.out _ e).2; have h : b < ws.heap.size := h; omega) _
                · exact (HB0.out.trans (hbel.mono HB0.out.size)).setCell (p := ⟨b, 1, none⟩) hbg _
                · exact ⟨fun x hx => by have := (HA0.out x hx).2; omega, by have := HB0.out.size; omega⟩
                · by_cases e : i = 0 ∧ k = 1
                  · obtain ⟨rfl, rfl⟩ := e; rw [updM_same]; exact .inr (GoodD.start _)
                  · rw [updM_other _ _ e]; exact .inl rfl
                · generalize hd : (0 : Nat) = dd at hr
                  cases hr with
                  | start => rw [updM_same]; exact Int.le_refl _
                  | step => omega
                  | stay => omega
              have hrI : (0 : Int) < (r : Int) ∧ (1 : Int) < (r : Int) ∧ 0 < r ∧ 1 < r := by omega
              clear hset hb hbg hmx hbel hgs hmk hg HO0 HB0 HA0 hrN
              go_wp2_with fail
              go_loopg [10, 13] m (DpR w A q c r li F m)
              case atStart => exact hst.out
              case round =>
                clear hst htop c1 z1
                obtain ⟨d, e, g, M, rfl, rfl, hed, hdm, hmx, ho, hb, hab, hsl, hgk⟩ := hrel
                by_cases hlt : d < m
                · have heI : (e : Int) ≤ (m : Int) ∧ (1 : Int) ≤ (e : Int) ∧ (e : Int) ≤ 15 := by have := hed.out; omega
                  have heN : e ≤ m := by omega
                  go_upto_region 27 with fail
                  go_cut [14] (fun v wx => ∃ g2 : Nat, v = .slice (some ⟨g2, 0, none⟩) r r ∧ MkS wr g2 wx r F 0)
                  case first =>
                    as_aux_lemma =>
                      go_wp2_with fail
                      go_meet
                      exact ⟨_, rfl, MkS.begin wr _ r F⟩
                  case rest =>
                    obtain ⟨g2, rfl, hmk⟩ := hcut
                    have HMK := Lib.hid hmk
                    obtain ⟨ws, hws⟩ : ∃ ws, ws = wr := ⟨_, rfl⟩
                    rw [← hws] at HMK hmx ho hb
                    clear hmk hws hmkT
                    go_wp2_with fail
                    go_loopg [15] r (fun (gk : Nat) (v15 : Value) wx => ∃ i : Nat, v15 = .int .i64 i ∧ i ≤ r ∧ Hid (MkS ws g2 wx r F i) ∧ Hid (gk = r - i))
                    case atStart => exact ⟨0, rfl, Nat.zero_le _, HMK.out, rfl⟩
                    case round =>
                      clear HMK
                      obtain ⟨p, rfl, hrN, hmk, hgo⟩ := hrel
                      by_cases hlt : p < r
                      · have hrI : (p : Int) < (r : Int) ∧ (0 : Int) ≤ (p : Int) ∧ p < r := by omega
                        have hrle : (p : Int) ≤ (q : Int) := by omega
                        have hrle2 : p ≤ q := by omega
                        have hal := (hmk.out.top.alloc (.cells (zrow r (.int .i64 0)) 3))
                        have c1 := hal.cell (i := p) hlt
                        have z1 := hal.frozen' (i := p) hlt
                        rw [show TopV g2 p r p = .slice none 0 0 by unfold TopV; rw [if_neg (Nat.lt_irrefl _)]] at c1
                        have hrow := Lib.hid (hmk.out.row_ hlt 3)
                        have HLT := Lib.hid hlt
                        clear hal hlt
                        go_wp2_with fail
                        go_loopg [16] r (fun (gk : Nat) (v16 : Value) wx => ∃ k : Nat, v16 = .int .i64 k ∧ k ≤ r ∧ Hid (MkR ws g2 wx r F p k) ∧ Hid (gk = r - k))
                        case atStart => exact ⟨0, rfl, Nat.zero_le _, hrow.out, rfl⟩
                        case round =>
                          clear hrow c1 z1
                          obtain ⟨k, rfl, hkN, hmr, hgi⟩ := hrel
                          by_cases hlk : k < r
                          · have hkI : (k : Int) < (r : Int) ∧ (0 : Int) ≤ (k : Int) ∧ k < r := by omega
                            have hkle : (k : Int) ≤ (q : Int) := by omega
                            have hkle2 : k ≤ q := by omega
                            have ct := hmr.out.tcell HLT.out
                            have c2 := hmr.out.row.cell (i := k) hlk
                            have z2 := hmr.out.row.frozen' (i := k) hlk
                            have hput := Lib.hid (hmr.out.put hlk)
                            obtain ⟨b, hb⟩ : ∃ b, g2 + 1 + p = b := ⟨_, rfl⟩
                            rw [hb] at ct c2 z2 hput
                            clear hb
                            go_wp2_with fail
                            go_roundg (r - (k + 1))
                            case measure => have := hgi.out; omega
                            case rel => exact ⟨k + 1, by go_num, hkI.2.2, hput, rfl⟩
                          · obtain rfl : k = r := by omega
                            have hkle : ¬ (k : Int) ≤ (q : Int) := by omega
                            have hkle2 : ¬ k ≤ q := by omega
                            have hfin := Lib.hid hmr.out.fin
                            go_wp2_with fail
                            go_roundg (k - (p + 1))
                            case measure => have := hgo.out; omega
                            case rel => exact ⟨p + 1, by go_num, hrI.2.2, hfin, rfl⟩
                      · obtain rfl : p = r := by omega
                        have hrle : ¬ (p : Int) ≤ (q : Int) := by omega
                        have hrle2 : ¬ p ≤ q := by omega
                        have hgs : g2 = ws.heap.size := hmk.out.hg
                        have hbel : Below ws.heap.size ws wr := by have := hmk.out.bel; rw [hgs] at this; exact this
                        have hm2 : Mx wr g2 q (fun _ _ => F) := by have h := hmk.out; rw [← HNN.out] at h; exact h.fin
                        have hghi := hmx.out.hi
                        have htw : TwM w wr g g2 q M (fun _ _ => F) A c li := ⟨hmx.out.below hbel hghi hbel.size, hm2, ho.out.keeps hbel, hb.out.trans (hbel.mono hb.out.size), hab.out, by omega⟩
                        have HTW := Lib.hid htw
                        clear hgs hbel hm2 hghi htw hmk hgo hmx ho hb hab hrN
                        have t1 := HTW.out.m1.top q (Nat.le_refl _)
                        have t2 := HTW.out.m2.top q (Nat.le_refl _)
                        rw [HNN.out] at t1 t2
                        have cv := HTW.out.m1.cell (i := q) (k := 0) (Nat.le_refl _) (Nat.zero_le _)
                        have c2 := HTW.out.m2.cell (i := q) (k := 0) (Nat.le_refl _) (Nat.zero_le _)
                        have z2 := HTW.out.m2.frozen (i := q) (k := 0) (Nat.le_refl _) (Nat.zero_le _)
                        obtain ⟨V, hV⟩ : ∃ V, M q 0 = V := ⟨_, rfl⟩
                        rw [hV] at cv
                        have hset := HTW.out.set_ (i := q) (k := 0) (Nat.le_refl _) (Nat.zero_le _) V
                        obtain ⟨b1, hb1⟩ : ∃ b, g + 1 + q = b := ⟨_, rfl⟩
                        obtain ⟨b2, hb2⟩ : ∃ b, g2 + 1 + q = b := ⟨_, rfl⟩
                        rw [hb1] at cv t1
                        rw [hb2] at c2 z2 t2 hset
                        have hst : Hid (RxA w g g2 q M A c li F d 0 1 0 (wr.setCell ⟨b2, 0, none⟩ (.int .i64 V)).drew) := ⟨_, hset.drew, by rw [← hV]; exact RlxM.begin hsl.out.1⟩
                        have hp0 : (0 : Int) < (p : Int) ∧ 0 < p := by omega
                        have hbne : Hid (b1 ≠ b2) := by show _ ≠ _; have := HTW.out.ap; omega
                        clear hset hb1 hb2 HTW
                        go_wp2_with fail
                        go_region
                        all_goals
                          clear t1 t2 cv c2 z2
                          revert hst
                          generalize ((wr.setCell ⟨b2, 0, none⟩ (.int .i64 V)).drew) = wz
                          intro hst
                          go_wp2_with fail
                          go_loopg [17] q (fun (gk : Nat) (v17 : Value) wx => ∃ i : Nat, v17 = .int .i64 i ∧ i ≤ q ∧ Hid (RxA w g g2 q M A c li F d i 1 0 wx) ∧ Hid (gk = q - i))
                          case atStart => exact ⟨0, rfl, Nat.zero_le _, hst.out, rfl⟩
                          case round =>
                            clear hst
                            obtain ⟨a, rfl, haq, hrx, hg8⟩ := hrel
                            by_cases hlt8 : a < q
                            · have haI : (a : Int) < (q : Int) ∧ (0 : Int) ≤ (a : Int) ∧ a < q ∧ (a : Int) < (p : Int) ∧ a < p := by omega
                              go_wp2_with fail
                              go_loopg [18] q (fun (gk : Nat) (v18 : Value) wx => ∃ k : Nat, v18 = .int .i64 k ∧ 1 ≤ k ∧ k ≤ q + 1 ∧ Hid (RxA w g g2 q M A c li F d a k 0 wx) ∧ Hid (gk = q + 1 - k))
                              case atStart => exact ⟨1, rfl, Nat.le_refl _, by omega, hrx.out, by show _ = _; omega⟩
                              case round =>
                                clear hrx
                                obtain ⟨k, rfl, hk1, hkq, hrx, hg9⟩ := hrel
                                by_cases hlt9 : k ≤ q
                                · have hkI : (k : Int) ≤ (q : Int) ∧ (0 : Int) ≤ (k : Int) ∧ (k : Int) < (p : Int) ∧ k < p := by omega
                                  obtain ⟨N', htw, hrl⟩ := hrx.out
                                  have t1 := htw.m1.top a (by omega)
                                  rw [HNN.out] at t1
                                  have cv := htw.m1.cell (i := a) (k := k) (by omega) hlt9
                                  have hs := hsl.out.1 a k (by omega) hlt9
                                  obtain ⟨v, hv⟩ : ∃ v, M a k = v := ⟨_, rfl⟩
                                  obtain ⟨b1, hb1⟩ : ∃ b, g + 1 + a = b := ⟨_, rfl⟩
                                  rw [hv] at cv hs
                                  rw [hb1] at cv t1
                                  have HV := Lib.hid hv
                                  have HK := Lib.hid (⟨hk1, hkq, hlt9⟩ : _ ∧ _ ∧ _)
                                  clear hb1 hrl htw hv hkq
                                  by_cases hvF : v = F
                                  · subst hvF
                                    have hrx2 : Hid (RxA w g g2 q M A c li v d a (k + 1) 0 wr) := by
                                      obtain ⟨N', htw, hrl⟩ := hrx.out
                                      exact ⟨N', htw, hrl.far HV.out⟩
                                    clear hs
                                    go_wp2_with fail
                                    go_roundg (q + 1 - (k + 1))
                                    case measure => have := hg9.out; have := HK.out; omega
                                    case rel => exact ⟨k + 1, by go_num, by omega, by have := HK.out; omega, hrx2, rfl⟩
                                  · have hvF' : (v == F) = false := by simpa using hvF
                                    have HG := Lib.hid (show GoodD li d a k v from hs.resolve_left hvF)
                                    have HVF := Lib.hid hvF
                                    obtain ⟨K2, hK2⟩ : ∃ K2, 2 * k = K2 := ⟨_, rfl⟩
                                    have hK2I : (2 : Int) * (k : Int) = (K2 : Int) ∧ (K2 : Int) ≤ 120 := by have := HQ2.out; omega
                                    have HK2 := Lib.hid hK2
                                    have hbd : Hid (∀ t, t ≤ 2 * k → 0 ≤ costT li (d + 1) a v t ∧ costT li (d + 1) a v t ≤ 5000000000) := fun t ht =>
                                      (HG.out.step ht).bd hlb.out (by rw [← HPS.out.2.2]; have := HQ2.out; omega) (by have := HM.out; have := hed.out; omega)
                                    have hvb : 0 ≤ v ∧ v ≤ 5000000000 := hbd.out 0 (Nat.zero_le _)
                                    clear hs hvF hK2 hk1 hlt9
                                    go_wp2_with fail
                                    go_loopg [20, 21] (2 * k + 2) (fun (gk : Nat) (v20 v21 : Value) wx => ∃ (t : Nat) (C : Int), v20 = .int .i64 C ∧ v21 = .int .i64 t ∧ t ≤ 2 * k + 1 ∧ Hid (RxA w g g2 q M A c li F d a k t wx) ∧ Hid (C = costT li (d + 1) a v (t - 1)) ∧ (0 ≤ C ∧ C ≤ 5000000000) ∧ Hid (gk = 2 * k + 2 - t))
                                    case atStart => exact ⟨0, v, rfl, rfl, Nat.zero_le _, hrx.out, rfl, hvb, rfl⟩
                                    case round =>
                                      clear hrx t1 cv
                                      obtain ⟨t, C, rfl, rfl, htk, hrx, hC, hCb, hg10⟩ := hrel
                                      have hexit : Hid (¬ (a + t ≤ q ∧ t ≤ 2 * k) → RxA w g g2 q M A c li F d a (k + 1) 0 wr) := fun he => by
                                        obtain ⟨N', htw, hrl⟩ := hrx.out
                                        exact ⟨N', htw, hrl.done he⟩
                                      by_cases ha : a + t ≤ q
                                      · by_cases hb : t ≤ 2 * k
                                        · obtain ⟨I2, hI2⟩ : ∃ I2, a + t = I2 := ⟨_, rfl⟩
                                          have hI2I : (a : Int) + (t : Int) = (I2 : Int) ∧ (I2 : Int) ≤ (q : Int) ∧ (0 : Int) ≤ (I2 : Int) ∧ (I2 : Int) < (p : Int) ∧ I2 < p ∧ I2 ≤ q := by omega
                                          have htI : (t : Int) ≤ (K2 : Int) ∧ t ≤ K2 ∧ (0 : Int) ≤ (t : Int) := by have := HK2.out; omega
                                          obtain ⟨Cn, hCn⟩ : ∃ Cn, costT li (d + 1) a v t = Cn := ⟨_, rfl⟩
                                          have hCnb : 0 ≤ Cn ∧ Cn ≤ 5000000000 := by rw [← hCn]; exact hbd.out t hb
                                          have HI2 := Lib.hid hI2
                                          have HCN := Lib.hid hCn
                                          have HB := Lib.hid hb
                                          clear hI2 hCn hb ha hexit htk
                                          go_upto_if 185 with fail
                                          go_cut [20] (fun v wx => v = .int .i64 Cn ∧ wx = wr)
                                          case first =>
                                            as_aux_lemma =>
                                              rcases Nat.eq_zero_or_pos t with h0 | h0
                                              · have hd0 : decide (0 < t) = false := decide_eq_false (by omega)
                                                have hd1 : ¬ 0 < t := by omega
                                                have hd2 : decide ((0 : Int) < (t : Int)) = false := decide_eq_false (by omega)
                                                have hCC : Hid (C = Cn) := by show _ = _; rw [hC.out, ← HCN.out, h0]
                                                clear h0
                                                go_wp2_with fail
                                                go_meet
                                                exact ⟨by rw [hCC.out], rfl⟩
                                              · obtain ⟨j, hj⟩ : ∃ j, I2 = j + 1 := ⟨I2 - 1, by have := HI2.out; omega⟩
                                                have hjI : (I2 : Int) - 1 = (j : Int) ∧ (0 : Int) ≤ (j : Int) ∧ (j : Int) < (q : Int) ∧ j < q := by omega
                                                obtain ⟨N', htw, -⟩ := hrx.out
                                                obtain ⟨gA, hA⟩ := htw.own.2.addr (by omega)
                                                have ho := htw.own
                                                have hab := htw.ab
                                                clear htw
                                                subst hA
                                                have cj := ho.at0 (i := j) (by omega)
                                                obtain ⟨x, hx⟩ : ∃ x, ix li j = x := ⟨_, rfl⟩
                                                have hxb : 0 ≤ x ∧ x ≤ 1048576 := by rw [← hx]; exact hlb.out _ (ix_mem (by rw [← HPS.out.2.2]; omega))
                                                rw [hx] at cj
                                                obtain ⟨P, hP⟩ : ∃ P, (e : Int) * x = P := ⟨_, rfl⟩
                                                have hPb : 0 ≤ P ∧ P ≤ 15728640 := by
                                                  rw [← hP]
                                                  refine ⟨Int.mul_nonneg (by omega) hxb.1, ?_⟩
                                                  have h := Int.mul_le_mul (show (e : Int) ≤ 15 by omega) hxb.2 hxb.1 (by omega)
                                                  omega
                                                have hCC : C + P = Cn := by
                                                  obtain ⟨t', rfl⟩ : ∃ t', t = t' + 1 := ⟨t - 1, by omega⟩
                                                  have hja : a + t' = j := by have := HI2.out; omega
                                                  rw [← HCN.out, costT, hja, hx, ← hP, hed.out, hC.out, Nat.add_sub_cancel]
                                                have HJ := Lib.hid hj
                                                clear ho hab hx hj
                                                go_wp2_with fail
                                                go_meet
                                                exact ⟨rfl, rfl⟩
                                          case rest =>
                                            obtain ⟨rfl, hw⟩ := hcut
                                            obtain rfl := hw.symm
                                            obtain ⟨L, hL⟩ : ∃ L, 2 * k - t = L := ⟨_, rfl⟩
                                            have hLI : (K2 : Int) - (t : Int) = (L : Int) ∧ (0 : Int) ≤ (L : Int) ∧ (L : Int) ≤ 120 := by have := HK2.out; have := HB.out; omega
                                            have HL := Lib.hid hL
                                            have hg11 : Hid (2 * k + 2 - (t + 1) < gk ∧ t + 1 ≤ 2 * k + 1) := by show _ ∧ _; have := hg10.out; have := HB.out; omega
                                            clear hL hg10
                                            by_cases hLq : q < L
                                            · have hLqI : (q : Int) < (L : Int) := by omega
                                              have hrx2 : Hid (RxA w g g2 q M A c li F d a k (t + 1) wr) := by
                                                obtain ⟨N', htw, hrl⟩ := hrx.out
                                                exact ⟨N', htw, hrl.skip (by rw [HL.out]; exact hLq)⟩
                                              clear hrx
                                              go_wp2_with fail
                                              go_roundg (2 * k + 2 - (t + 1))
                                              case measure => exact hg11.out.1
                                              case rel => exact ⟨t + 1, Cn, rfl, by go_num, hg11.out.2, hrx2, by show _ = _; rw [Nat.add_sub_cancel]; exact HCN.out.symm, hCnb, rfl⟩
                                            · have hLqI : ¬ (q : Int) < (L : Int) ∧ (L : Int) < (p : Int) ∧ L < p := by omega
                                              have hLq' : ¬ q < L := hLq
                                              obtain ⟨N', htw, hrl⟩ := hrx.out
                                              have t2 := htw.m2.top I2 (by omega)
                                              rw [HNN.out] at t2
                                              have cy := htw.m2.cell (i := I2) (k := L) (by omega) (by omega)
                                              have zy := htw.m2.frozen (i := I2) (k := L) (by omega) (by omega)
                                              have hset := Lib.hid (htw.set_ (i := I2) (k := L) (by omega) (by omega) Cn)
                                              obtain ⟨y, hy⟩ : ∃ y, N' I2 L = y := ⟨_, rfl⟩
                                              obtain ⟨b2, hb2⟩ : ∃ b, g2 + 1 + I2 = b := ⟨_, rfl⟩
                                              rw [hy] at cy
                                              rw [hb2] at cy zy t2 hset
                                              have HH := Lib.hid (⟨htw, hrl, hy⟩ : _ ∧ _ ∧ _)
                                              clear hb2 htw hrl hy hrx hLq
                                              by_cases hlt : Cn < y
                                              · have hrx2 : Hid (RxA w g g2 q M A c li F d a k (t + 1) (wr.setCell ⟨b2, L, none⟩ (.int .i64 Cn))) := by
                                                  refine ⟨_, hset.out, ?_⟩
                                                  have h := HH.out.2.1.put (C := Cn) (by rw [HV.out]; exact HCN.out.symm) (by rw [← HCN.out]; exact HG.out.step HB.out) (by rw [HI2.out, HL.out, HH.out.2.2]; exact hlt)
                                                  rw [HI2.out, HL.out] at h
                                                  exact h
                                                clear hset HH
                                                go_wp2_with fail
                                                go_roundg (2 * k + 2 - (t + 1))
                                                case measure => exact hg11.out.1
                                                case rel => exact ⟨t + 1, Cn, rfl, by go_num, hg11.out.2, hrx2, by show _ = _; rw [Nat.add_sub_cancel]; exact HCN.out.symm, hCnb, rfl⟩
                                              · have hrx2 : Hid (RxA w g g2 q M A c li F d a k (t + 1) wr) := by
                                                  refine ⟨N', HH.out.1, HH.out.2.1.keep ?_⟩
                                                  rw [HI2.out, HL.out, HH.out.2.2, HV.out, HCN.out]; omega
                                                clear hset HH
                                                go_wp2_with fail
                                                go_roundg (2 * k + 2 - (t + 1))
                                                case measure => exact hg11.out.1
                                                case rel => exact ⟨t + 1, Cn, rfl, by go_num, hg11.out.2, hrx2, by show _ = _; rw [Nat.add_sub_cancel]; exact HCN.out.symm, hCnb, rfl⟩
                                        · have hrx2 := Lib.hid (hexit.out (by omega))
                                          obtain ⟨I2, hI2⟩ : ∃ I2, a + t = I2 := ⟨_, rfl⟩
                                          have hI2I : (a : Int) + (t : Int) = (I2 : Int) ∧ (I2 : Int) ≤ (q : Int) ∧ I2 ≤ q := by omega
                                          have htI : ¬ (t : Int) ≤ (K2 : Int) ∧ ¬ t ≤ K2 := by have := HK2.out; omega
                                          have hd1 : decide (t ≤ K2) = false := decide_eq_false (by omega)
                                          have hd2 : decide ((t : Int) ≤ (K2 : Int)) = false := decide_eq_false (by omega)
                                          have hd3 : (K2 : Int) < (t : Int) ∧ K2 < t := by omega
                                          clear hexit hrx hI2 ha hb htk
                                          go_wp2_with fail
                                          go_roundg (q + 1 - (k + 1))
                                          case measure => have := hg9.out; have := HK.out; omega
                                          case rel => exact ⟨k + 1, by go_num, by omega, by have := HK.out; omega, hrx2, rfl⟩
                                      · have hrx2 := Lib.hid (hexit.out (by omega))
                                        obtain ⟨I2, hI2⟩ : ∃ I2, a + t = I2 := ⟨_, rfl⟩
                                        have hI2I : (a : Int) + (t : Int) = (I2 : Int) := by omega
                                        have hd1 : decide (I2 ≤ q) = false := decide_eq_false (by omega)
                                        have hd2 : decide ((I2 : Int) ≤ (q : Int)) = false := decide_eq_false (by omega)
                                        have hd4 : (I2 : Int) ≤ 400 ∧ (0 : Int) ≤ (I2 : Int) := by have := HQ2.out; have := HK.out; omega
                                        have hd3 : (q : Int) < (I2 : Int) ∧ q < I2 := by omega
                                        clear hexit hrx hI2 ha htk
                                        go_wp2_with fail
                                        go_roundg (q + 1 - (k + 1))
                                        case measure => have := hg9.out; have := HK.out; omega
                                        case rel => exact ⟨k + 1, by go_num, by omega, by have := HK.out; omega, hrx2, rfl⟩
                                · have hkI : ¬ (k : Int) ≤ (q : Int) := by omega
                                  have hrx2 : Hid (RxA w g g2 q M A c li F d (a + 1) 1 0 wr) := by
                                    obtain ⟨N', htw, hrl⟩ := hrx.out
                                    exact ⟨N', htw, hrl.row (by omega)⟩
                                  have hlt9' : q < k := by omega
                                  clear hrx
                                  go_wp2_with fail
                                  go_roundg (q - (a + 1))
                                  case measure => have := hg8.out; omega
                                  case rel => exact ⟨a + 1, by go_num, by omega, hrx2, rfl⟩
                            · obtain rfl : a = q := by omega
                              have haI : ¬ (a : Int) < (a : Int) := by omega
                              have hdm1 : Hid (d + 1 ≤ m) := by show _ ≤ _; omega
                              have hfin : Hid (DpR w A a c p li F m (m - (d + 1)) (.slice (some ⟨g2, 0, none⟩) p p) (.int .i64 ((e + 1 : Nat) : Int)) wr) := by
                                obtain ⟨N', htw, hrl⟩ := hrx.out
                                refine ⟨d + 1, e + 1, g2, N', rfl, rfl, by show _ = _; rw [hed.out], hdm1.out, htw.m2, htw.own, htw.bel, ⟨fun x hx => by have := htw.ab.1 x hx; have := htw.ap; omega, by have := htw.ab.2; have := htw.ap; omega⟩, ⟨hrl.snd, hrl.fin hsl.out.2 fun i k v hr => ?_⟩, rfl⟩
                                have h := (hr.good).bd hlb.out (by rw [← HPS.out.2.2]; have := HQ2.out; omega) (by have := HM.out; have := hdm1.out; omega)
                                rw [HFF.out]; omega
                              clear hrx
                              go_wp2_with fail
                              go_roundg (m - (d + 1))
                              case measure => have := hgk.out; have := hdm1.out; omega
                              case rel => exact hfin.out
                · obtain rfl : d = m := by omega
                  have heI : ¬ (e : Int) ≤ (d : Int) := by have := hed.out; omega
                  have heN : ¬ e ≤ d := by have := hed.out; omega
                  have htop := hmx.out.top q (Nat.le_refl _)
                  rw [HNN.out] at htop
                  have cv := hmx.out.cell (i := q) (k := 0) (Nat.le_refl _) (Nat.zero_le _)
                  have hs := hsl.out.1 q 0 (Nat.le_refl _) (Nat.zero_le _)
                  obtain ⟨V, hV⟩ : ∃ V, M q 0 = V := ⟨_, rfl⟩
                  obtain ⟨b, hb2⟩ : ∃ b, g + 1 + q = b := ⟨_, rfl⟩
                  rw [hV] at cv hs
                  rw [hb2] at cv htop
                  have hfin : Hid (LeastPost w f i d 1152921504606846976 (.returned (.int .i64 V)) wr) := by
                    refine ⟨V, li, rfl, hb.out, HPS.out.1, HPS.out.2.1, ?_, fun v hv => ?_⟩
                    · rw [← HFF.out, ← HPS.out.2.2]; exact hs
                    · rw [← hV]; rw [← HPS.out.2.2] at hv; exact hsl.out.2 q 0 v hv (Nat.le_refl _) (Nat.zero_le _)
                  clear hs hV hb2 hsl
                  go_wp2_with fail
                  go_ret
                  exact hfin.out
end Go.Proofs.Ytckhkkjdibcclaa
