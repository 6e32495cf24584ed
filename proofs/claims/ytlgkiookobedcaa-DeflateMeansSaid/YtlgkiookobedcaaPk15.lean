/-
  Several texts in one (written by pack2.py): LimO, LimS, LimT, LimW.
-/
import Derived.Test.YtlgkiookobedcaaPk14
import Derived.Test.YtlgkiookobedcaaPk3
import Derived.Handy
import Derived.Test.YtlgkiookobedcaaPk2
import Derived.Test.YtlgkiookobedcaaPk1
namespace Go.Proofs.Ytlgkiookobedcaa
open Go.RowKit
set_option linter.unusedVariables false
theorem may_ok {f : List Int} {m : Int} (h : mayV f m = 0) : f.length ≤ 288 ∧ 1 ≤ m ∧ m ≤ 15 ∧ (∀ i, i < f.length → 0 ≤ ix f i ∧ ix f i ≤ 1048576) ∧ (posI f f.length).length ≤ 2 ^ m.toNat := by
  unfold mayV at h
  split at h
  · simp at h
  · split at h
    · simp at h
    · split at h
      · simp at h
      · rename_i h1 h2 h3
        refine ⟨by omega, by omega, by omega, fun i hi => ?_, by omega⟩
        by_cases g : ix f i < 0 ∨ 1048576 < ix f i
        · exact absurd (bad_at hi g) h2
        · omega
def cntOf (n : Nat) (T : List Int) : List Int := (List.range n).map fun (s : Nat) => ((T.count (s : Int) : Nat) : Int)
theorem cntOf_length (n : Nat) (T : List Int) : (cntOf n T).length = n := by simp [cntOf]
theorem ix_cnt {n : Nat} (T : List Int) {i : Nat} (hi : i < n) : ix (cntOf n T) i = ((T.count (i : Int) : Nat) : Int) := by simp [cntOf, ix, hi]
def LenRes (f : List Int) (m : Nat) (L : List Int) : Prop := L.length = f.length ∧
  ((posI f f.length = [] ∧ ∀ i, i < f.length → ix L i = 0) ∨
   (∃ s, posI f f.length = [s] ∧ ∀ i : Nat, i < f.length → ix L i = if (i : Int) = s then 1 else 0) ∨
   (∃ S, S.Perm (posI f f.length) ∧ StabS f S ∧ 2 ≤ S.length ∧ ∀ i : Nat, i < f.length → ix L i = ((lenP (fqI f) S m (i : Int) : Nat) : Int)))
def LimPost (w : World) (f : List Int) (m : Int) (e : Ending) (w' : World) : Prop :=
  ∃ A c L, e = .returned (.tuple #[.slice A L.length c, .int .i64 (mayV f m)]) ∧ Below w.heap.size w w' ∧ OwnI .i64 w' w.heap.size 3 A L.length c L ∧ (mayV f m ≠ 0 → L = []) ∧ (mayV f m = 0 → LenRes f m.toNat L)
theorem lev_small {F : List Pk} {n : Nat} (h : ∀ p ∈ F, 0 ≤ p.w ∧ p.w ≤ 1048576 ∧ p.l.length ≤ 1) (k : Nat) : ∀ p ∈ lev F k, 0 ≤ p.w ∧ p.w ≤ 1048576 * 2 ^ k ∧ p.l.length ≤ 2 ^ k := by
  induction k with
  | zero => intro p hp; have := h p hp; simp; omega
  | succ k ih =>
    have hp2 : (0 : Int) < 2 ^ k := Int.pow_pos (by omega)
    have hp3 := Nat.two_pow_pos k
    intro p hp
    rw [Int.pow_succ, Nat.pow_succ]
    rcases List.mem_append.1 ((mrg_perm _ _).mem_iff.1 hp) with h1 | h1
    · have := h p h1; omega
    · obtain ⟨c, hc, d, hd, e1, e2⟩ := pairs_mem _ p h1
      have := ih c hc
      have := ih d hd
      rw [e1, e2, List.length_append]
      omega
theorem lev_few (F : List Pk) (k : Nat) : (lev F k).length ≤ 2 * F.length := by
  induction k with
  | zero => show F.length ≤ _; omega
  | succ k ih => rw [lev_length]; omega
theorem lev_ge (F : List Pk) (k : Nat) : F.length ≤ (lev F k).length := by
  cases k with
  | zero => exact Nat.le_refl _
  | succ k => rw [lev_length]; omega
theorem LimPost.mk {w w' : World} {f : List Int} {m : Int} {A : Option Addr} {n c : Nat} {L : List Int} (hmv : mayV f m = 0) (hl : L.length = n) (hb : Below w.heap.size w w') (ho : OwnI .i64 w' w.heap.size 3 A n c L) (hR : LenRes f m.toNat L) : LimPost w f m (.returned (.tuple #[.slice A n c, .int .i64 0])) w' := by
  subst hl
  exact ⟨A, c, L, by rw [hmv], hb, ho, fun h => absurd hmv h, fun _ => hR⟩
theorem run_slice_to2 {i : TypeInfo} (hi : Try.prog.info? 129 = some i) (hs : i.size = 2) (A : Option Addr) (n c : Nat) {j : Nat} (hj : j ≤ c) (W : World) :
    (Instr.slice 126 (.slice A n c) none (some (.int .i64 (j : Int))) none).run Try.prog W = .ok (.slice A j c) W := by
  have he : Try.prog.elem 126 = 129 := by simp [Program.elem, Try.underlying126]
  rw [run_slice_h W 126 A n c (by rw [he]; exact Try.underlying126) .i64 j (by omega) (by omega), he]
  simp [sizeOf, typeInfo, hi, hs, sliced]
  cases A <;> simp [Addr.add]
def LoR (w2 : World) (gf : Nat) (F : List Pk) (b1 : Nat) (m : Nat) (k : Nat) (v9 v44 : Value) (wr : World) : Prop :=
  ∃ (i g q c : Nat), v9 = .slice (some ⟨g, 0, none⟩) q c ∧ v44 = .int .i64 i ∧ i + 1 ≤ m ∧ Hid (PckR wr wr.heap.size (fun g => g < b1) (some ⟨g, 0, none⟩) q (lev F i)) ∧ q ≤ c ∧ b1 ≤ g ∧ g < wr.heap.size ∧ Below w2.heap.size w2 wr ∧ Hid (k = m - 1 - i)
theorem cnt_push {n : Nat} (T : List Int) {s : Int} {i : Nat} (hs : (i : Int) = s) (hi : i < n) : cntOf n (T ++ [s]) = (cntOf n T).set i (ix (cntOf n T) i + 1) := by
  subst hs
  apply List.ext_getElem
  · simp [cntOf]
  · intro j h1 h2
    simp only [ix_cnt T hi]
    simp only [cntOf, List.getElem_map, List.getElem_range, List.getElem_set, List.count_append]
    by_cases h : i = j
    · subst h; simp
    · rw [if_neg h]
      have : ¬ (i : Int) = (j : Int) := by omega
      simp [this]
theorem pos_mem {f : List Int} {k : Nat} : ∀ s ∈ posI f k, ∃ i : Nat, i < k ∧ s = (i : Int) := by
  induction k with
  | zero => intro s hs; simp [posI] at hs
  | succ k ih =>
    intro s hs
    rw [posI] at hs
    rcases List.mem_append.1 hs with h | h
    · obtain ⟨i, h1, h2⟩ := ih s h
      exact ⟨i, by omega, h2⟩
    · split at h
      · exact ⟨k, by omega, List.mem_singleton.1 h⟩
      · simp at h
theorem pos_nodup (f : List Int) (k : Nat) : (posI f k).Nodup := by
  induction k with
  | zero => simp [posI]
  | succ k ih =>
    rw [posI]
    split
    · refine List.nodup_append.2 ⟨ih, by simp, fun a ha b hb => ?_⟩
      obtain ⟨i, h1, h2⟩ := pos_mem a ha
      rw [List.mem_singleton.1 hb, h2]
      omega
    · rw [List.append_nil]; exact ih
theorem count_pre {P : List Pk} {j K t : Nat} {p : Pk} (hj : j < K) (htk : P.take (j + 1) = P.take j ++ [p]) (s : Int) : (flP (P.take j) ++ p.l.take t).count s ≤ (flP (P.take K)).count s := by
  have e : P.take K = P.take (j + 1) ++ (P.take K).drop (j + 1) := by
    have : P.take (j + 1) = (P.take K).take (j + 1) := by rw [List.take_take, Nat.min_eq_left (by omega)]
    rw [this, List.take_append_drop]
  rw [e, htk, flP_append, flP_append, List.count_append, List.count_append, List.count_append]
  have h1 : flP [p] = p.l.take t ++ p.l.drop t := by rw [List.take_append_drop]; simp [flP]
  rw [h1, List.count_append]
  omega
def OuR (ws : World) (go n : Nat) (b0 : Nat) (P : List Pk) (K : Nat) (k : Nat) (v58 : Value) (wr : World) : Prop :=
  ∃ j : Nat, v58 = .int .i64 j ∧ j ≤ K ∧ OwnI .i64 wr b0 3 (some ⟨go, 0, none⟩) n n (cntOf n (flP (P.take j))) ∧ Chg ws wr (fun x => x = go) ∧ Hid (k = K - j)
def InrR (ws : World) (go n : Nat) (b0 : Nat) (T l : List Int) (k : Nat) (v65 : Value) (wr : World) : Prop :=
  ∃ t : Nat, v65 = .int .i64 t ∧ t ≤ l.length ∧ OwnI .i64 wr b0 3 (some ⟨go, 0, none⟩) n n (cntOf n (T ++ l.take t)) ∧ Chg ws wr (fun x => x = go) ∧ Hid (k = l.length - t)
set_option maxRecDepth 100000 in
set_option maxHeartbeats 1600000 in
theorem lengths_any (w : World) (C : Option Addr) (n d : Nat) (f : List Int) (hr : RdI .i64 w w.heap.size C n f) (m : Int) (hnm : (n : Int) ≤ 4611686018427387904) :
    Calls Try.prog 66 #[.slice C n d, .int .i64 m] w (LimPost w f m) := by
  obtain ⟨i0, hi, hz0, hz1, hz2⟩ := info_parts lint_info
  have HCK := Lib.hid (lcheck_any w w.heap.size C n d f hr m hnm)
  have hnf := hr.1
  have HNF := Lib.hid hnf
  obtain ⟨mv, hmv⟩ : ∃ v, mayV f m = v := ⟨_, rfl⟩
  rw [hmv] at HCK
  have HMV := Lib.hid hmv
  by_cases hv0 : mv = 0
  · subst hv0
    obtain ⟨o1, o2, o3, o4, o5⟩ := may_ok hmv
    obtain ⟨mm, rfl⟩ := Int.eq_ofNat_of_zero_le (show 0 ≤ m by omega)
    have hmm : 1 ≤ mm ∧ mm ≤ 15 := by omega
    have hmI : (1 : Int) ≤ mm ∧ (mm : Int) ≤ 15 := by omega
    have hnI : (0 : Int) ≤ n ∧ (n : Int) ≤ 288 := by omega
    have hmk := run_make_zrow (P := Try.prog) 32 3 i0 (.int .i64 0) Try.underlying32 hi hz0 hz1 rfl .i64 .i64 n (by rw [hz2]; omega) (by omega) w
    have hown1 : OwnI .i64 (w.alloc (.cells (zrow n (.int .i64 0)) 3)) w.heap.size 3 (some ⟨w.heap.size, 0, none⟩) n n (List.replicate n 0) := by
      have := OwnI.lit (k := .i64) (w := w) (b0 := w.heap.size) rfl (List.replicate n 0) 3 (Nat.le_refl _) (by rw [List.length_replicate]; unfold maxLen; omega)
      rw [List.length_replicate] at this
      have e : ((List.replicate n (0 : Int)).map (Value.int .i64)).toArray = zrow n (.int .i64 0) := by unfold zrow; simp
      rw [e] at this
      exact this
    have hb1 : Below w.heap.size w (w.alloc (.cells (zrow n (.int .i64 0)) 3)) := (Below.refl _ w).alloc (Nat.le_refl _) _
    have HLV := Lib.hid (leaves_any (w.alloc (.cells (zrow n (.int .i64 0)) 3)) C n d f ((hr.alloc (Nat.le_refl _) _).more (by simp)) (by omega) (fun i hi => o4 i (by omega)))
    have HO := Lib.hid (⟨o1, o4, o5, hmm⟩ : _ ∧ _ ∧ _ ∧ _)
    clear o1 o2 o3 o4 o5 hmm hmv hr hnf
    go_enter Try.func66, Try.ntmps66
    go_wp2_with fail
    refine HCK.out.mono ?_
    rintro e w1 ⟨rfl, rfl⟩
    go_wp2_with fail
    refine HLV.out.mono ?_
    rintro e w2 ⟨A, q, c, S, rfl, hb2, hpk, hA, hS1, hS2, hqc⟩
    rw [HNF.out] at hS1
    have ho2 := hown1.keeps hb2
    have hbw2 := hb1.trans (hb2.mono hb1.size)
    have hqS : q = S.length := by
      obtain ⟨D, hd1, hd2⟩ := hpk
      rw [hd1.1, hd2.length, leafs_length]
    have HS := Lib.hid (⟨hS1, hS2⟩ : _ ∧ _)
    have hqn : q ≤ n := by rw [hqS, hS1.length_eq]; have := pos_len f f.length; have := HNF.out; omega
    have hws1 : (w.alloc (.cells (zrow n (.int .i64 0)) 3)).heap.size = w.heap.size + 1 := by simp
    rw [hws1] at hpk hA
    have hs12 : w.heap.size + 1 ≤ w2.heap.size := by have := hb2.size; rw [hws1] at this; exact this
    have HQ := Lib.hid (⟨hqS, hqn, hqc, hs12⟩ : q = S.length ∧ q ≤ n ∧ q ≤ c ∧ w.heap.size + 1 ≤ w2.heap.size)
    clear hmk hown1 hb1 hb2 hS1 hS2 HLV HCK hws1
    by_cases hq0 : q = 0
    · have hq0I : (q : Int) = 0 := by omega
      have hfin : Hid (LimPost w f (mm : Int) (.returned (.tuple #[.slice (some ⟨w.heap.size, 0, none⟩) n n, .int .i64 0])) w2) :=
        LimPost.mk HMV.out (List.length_replicate ..) hbw2 ho2 ⟨by rw [List.length_replicate]; exact HNF.out, .inl ⟨List.eq_nil_of_length_eq_zero (by rw [← HS.out.1.length_eq]; have := HQ.out.1; omega), fun i hi => by unfold ix; rw [List.getD_eq_getElem?_getD, List.getElem?_replicate]; split <;> rfl⟩⟩
      clear hq0 hqS hqn hqc hs12 hpk hA ho2 hbw2
      go_wp2_with fail
      go_returns
      exact hfin.out
    · by_cases hq1 : q = 1
      · subst hq1
        obtain ⟨g, rfl, hg1, hg2⟩ : ∃ g, A = some ⟨g, 0, none⟩ ∧ w.heap.size + 1 ≤ g ∧ g < w2.heap.size := by
          rcases hA with ⟨_, h⟩ | h
          · omega
          · exact h
        obtain ⟨s, rfl⟩ : ∃ s, S = [s] := by
          cases S with
          | nil => simp at hqS
          | cons s S => cases S with
            | nil => exact ⟨s, rfl⟩
            | cons s' S => simp at hqS
        have hpos1 : posI f f.length = [s] := (List.perm_singleton.1 (HS.out.1.symm))
        obtain ⟨sn, hsn, rfl⟩ := pos_mem s (by rw [hpos1]; exact List.mem_singleton.2 rfl)
        obtain ⟨D, hd1, hd2⟩ := hpk
        obtain ⟨x, rfl, hm⟩ : ∃ x, D = [x] ∧ MeanE w2 w2.heap.size (fun g => g < w.heap.size + 1) x ⟨fqI f (sn : Int), [(sn : Int)]⟩ := by
          unfold leafs at hd2
          cases hd2 with
          | cons k1 k2 => cases k2 with
            | nil => exact ⟨_, rfl, k1⟩
        obtain ⟨xw, xA, xn, xc⟩ := x
        have hxn : xn = 1 := hm.2.1.1
        subst hxn
        obtain ⟨ad, had, hadB, hcells⟩ := hd1.2 (by omega)
        obtain rfl : ad = ⟨g, 0, none⟩ := by injection had with had; exact had.symm
        have a1 := hcells 1 (by omega)
        rw [addr0] at a1
        replace a1 : w2.cell? ⟨g, 1, none⟩ = some (.slice xA 1 xc) := a1
        obtain ⟨ad2, had2, hlt2, hcell⟩ := hm.2.1.at_ (i := 0) (by show 0 < 1; omega)
        replace had2 : xA = some ad2 := had2
        subst had2
        rw [add_zero'] at hcell
        replace hcell : w2.cell? ad2 = some (.int .i64 (sn : Int)) := hcell
        have hsnn : sn < n := by have := HNF.out; omega
        have hsnI : (0 : Int) ≤ sn ∧ (sn : Int) < n := by omega
        have co := ho2.2.cell (i := sn) (by omega)
        have cz := (Own.ar ho2.2).frozen' (i := sn) (by omega)
        have hput := ho2.put hsnn 1
        have hbf : Below w.heap.size w (w2.setCell ⟨w.heap.size, sn, none⟩ (.int .i64 1)) := hbw2.setCell (p := ⟨w.heap.size, sn, none⟩) (Nat.le_refl _) _
        have hfin := Lib.hid (LimPost.mk HMV.out (by rw [List.length_set]; exact List.length_replicate ..) hbf hput ⟨by rw [List.length_set, List.length_replicate]; exact HNF.out, .inr (.inl ⟨(sn : Int), hpos1, fun i hi => by
          unfold ix
          rw [List.getD_eq_getElem?_getD, List.getElem?_set]
          by_cases e : sn = i
          · subst e; rw [if_pos rfl, if_pos (by rw [List.length_replicate]; exact hsnn), if_pos rfl]; rfl
          · rw [if_neg e, if_neg (by omega), List.getElem?_replicate]; split <;> rfl⟩)⟩)
        clear hq0 hqS hqn hqc hs12 hA hpos1 hsn hd1 hd2 hm had hadB hcells hput hbf ho2 hbw2 hsnn hg1 hg2 hlt2
        go_wp2_with fail
        go_returns
        exact hfin.out
      · have hq0I : ((q : Int) == 0) = false := by simp; omega
        have hq1I : ((q : Int) == 1) = false := by simp; omega
        have hq2 : 2 ≤ q := by omega
        obtain ⟨g, rfl, hg1, hg2⟩ : ∃ g, A = some ⟨g, 0, none⟩ ∧ w.heap.size + 1 ≤ g ∧ g < w2.heap.size := by
          rcases hA with ⟨_, h⟩ | h
          · omega
          · exact h
        obtain ⟨m1, hm1⟩ : ∃ k, mm - 1 = k := ⟨_, rfl⟩
        have hsm : (mm : Int) - 1 = (m1 : Int) := by have := HO.out; omega
        have hF : Hid (∀ p ∈ leafs (fqI f) S, 0 ≤ p.w ∧ p.w ≤ 1048576 ∧ p.l.length ≤ 1) := fun p hp => by
          obtain ⟨s, hs, e1, e2⟩ := leafs_mem p hp
          rw [e1, e2]
          unfold fqI
          by_cases hsi : s.toNat < f.length
          · have := HO.out.2.1 _ hsi; simp; omega
          · have : ix f s.toNat = 0 := by unfold ix; rw [List.getD_eq_getElem?_getD, List.getElem?_eq_none (by omega)]; rfl
            rw [this]; simp
        obtain ⟨F, hFd⟩ : ∃ F, leafs (fqI f) S = F := ⟨_, rfl⟩
        have hFl : F.length = q := by rw [← hFd, leafs_length]; exact hqS.symm
        rw [hFd] at hpk hF
        have hini : Hid (LoR w2 g F (w.heap.size + 1) mm m1 (.slice (some ⟨g, 0, none⟩) q c) (.int .i64 0) w2) := ⟨0, g, q, c, rfl, rfl, by have := HO.out; omega, hpk, hqc, hg1, hg2, Below.refl _ _, by show m1 = _; omega⟩
        have HFD := Lib.hid hFd
        have HPK := Lib.hid (⟨hpk, hq2, hqn, hFl, hm1, hg1, hg2⟩ : PckR w2 w2.heap.size (fun g => g < w.heap.size + 1) (some ⟨g, 0, none⟩) q F ∧ 2 ≤ q ∧ q ≤ n ∧ F.length = q ∧ mm - 1 = m1 ∧ w.heap.size + 1 ≤ g ∧ g < w2.heap.size)
        have hm1I : (0 : Int) ≤ m1 ∧ (m1 : Int) ≤ 14 := by have := HO.out; omega
        have hqI : (2 : Int) ≤ q ∧ (q : Int) ≤ 288 := by omega
        have HOW := Lib.hid (⟨ho2, hbw2⟩ : _ ∧ _)
        clear hq0 hq1 hqS hqn hqc hs12 hpk hA hq2 hg1 hg2 hm1 hFd hFl ho2 hbw2
        go_wp2_with fail
        go_loopg [9, 44] m1 (LoR w2 g F (w.heap.size + 1) mm)
        case atStart => exact hini.out
        case round =>
          clear hini
          obtain ⟨i, g3, q3, c3, rfl, rfl, him, hpi, hq3, hg3, hg3', hbi, hk⟩ := hrel
          have hFl := HPK.out.2.2.2.1
          have hq3l : q3 = (lev F i).length := by
            obtain ⟨D, hd1, hd2⟩ := hpi.out
            rw [hd1.1, hd2.length]
          have hfew := lev_few F i
          have hge := lev_ge F i
          have hmm15 := HO.out.2.2.2
          have hp40 : (2 : Nat) ^ i ≤ 2 ^ 14 := Nat.pow_le_pow_right (by omega) (by omega)
          have hp40I : (2 : Int) ^ i ≤ 16384 := by have : ((2 ^ i : Nat) : Int) ≤ ((2 ^ 14 : Nat) : Int) := by omega
                                                   simpa using this
          have hsmP : SmP (lev F i) := fun p hp => by
            have := lev_small (n := n) hF.out i p hp
            refine ⟨this.1, ?_, ?_⟩
            · have h2 : p.w ≤ 1048576 * 2 ^ i := this.2.1
              omega
            · have h3 : p.l.length ≤ 2 ^ i := this.2.2
              have : (2 : Nat) ^ 14 = 16384 := by decide
              omega
          by_cases hlt : i < m1
          · have hltI : (i : Int) < (m1 : Int) ∧ (0 : Int) ≤ i := by omega
            have hw2 := hbi.size
            have HPD := Lib.hid (paired_any wr g3 q3 c3 wr.heap.size (lev F i) (fun g => g < w.heap.size + 1) (fun g hg => by have := HQ.out.2.2.2; omega) hpi.out (Nat.le_refl _) (by have := HPK.out; have := HO.out; have := HNF.out; omega) hsmP (by have := HPK.out; omega))
            have HI := Lib.hid (⟨him, hlt, hfew, hge, hq3l, hFl⟩ : _ ∧ _ ∧ _ ∧ _ ∧ _ ∧ _)
            clear him hlt hfew hge hq3l hFl hmm15 hp40 hp40I hsmP hpi hq3 hg3 hg3' hw2
            go_wp2_with fail
            refine HPD.out.mono ?_
            rintro e w5 ⟨g5, q5, c5, rfl, hb5, hp5, hq5, hg5, hg5'⟩
            have hb25 := hbi.trans (hb5.mono hbi.size)
            have hq5l : q5 = (pairsP (lev F i)).length := by
              obtain ⟨D, hd1, hd2⟩ := hp5
              rw [hd1.1, hd2.length]
            have hpl := pairs_length (lev F i)
            have HMG := Lib.hid (merged_any w5 w5.heap.size q c q5 c5 (some ⟨g, 0, none⟩) (some ⟨g5, 0, none⟩) F (pairsP (lev F i)) (fun g => g < w.heap.size + 1) ((HPK.out.1.below hb25).more hb25.size) hp5 (Nat.le_refl _) (by have := HPK.out; omega) (by have := HPK.out; have := HO.out; have := HNF.out; omega) (by have := HI.out; have := HPK.out; have := HO.out; have := HNF.out; omega) HQ.out.2.2.1 hq5)
            clear hb5 hp5 hq5 hg5 hg5' hq5l hpl HPD
            go_wp2_with fail
            refine HMG.out.mono ?_
            rintro e w6 ⟨g6, q6, c6, rfl, hb6, hp6, hq6, hg6, hg6'⟩
            clear HMG
            go_wp2_with fail
            go_roundg (m1 - (i + 1))
            case measure => have := hk.out; have := HI.out; have := HPK.out; omega
            case rel =>
              refine ⟨i + 1, g6, q6, c6, rfl, by go_num, by have := HI.out; have := HPK.out; have := HO.out; omega, hp6, hq6, ?_, hg6', hb25.trans (hb6.mono hb25.size), by show _ = _; have := HPK.out; omega⟩
              have := hb25.size; have := HQ.out.2.2.2; omega
          · have him1 : i = m1 := by have := HPK.out; omega
            subst him1
            have hltI : ¬ (i : Int) < (i : Int) := by omega
            obtain ⟨K, hK⟩ : ∃ K, 2 * q - 2 = K := ⟨_, rfl⟩
            have hsK : 2 * (q : Int) - 2 = (K : Int) := by have := HPK.out; omega
            have hKq : K ≤ q3 := by
              have h9 := lev_long (F := F) (n := 2) (k := i) (by
                rw [hFl, HQ.out.1, HS.out.1.length_eq]
                have h8 := HO.out.2.2.1
                rw [Int.toNat_natCast] at h8
                have h7 : mm = i + 1 := by have := HPK.out; omega
                rw [h7, Nat.pow_succ] at h8
                omega)
              omega
            have hKI : (0 : Int) ≤ K ∧ (K : Int) ≤ 600 := by omega
            obtain ⟨j0, hji, hjz0, hjz1, hjz2⟩ := info_parts pck_info
            have hsl := run_slice_to2 hji hjz1 (some ⟨g3, 0, none⟩) q3 c3 (j := K) (by omega)
            obtain ⟨ho2, hbw2⟩ := HOW.out
            have ho3 := ho2.keeps hbi
            have hz0 : cntOf n (flP ((lev F i).take 0)) = List.replicate n 0 := by
              apply List.ext_getElem
              · simp [cntOf]
              · intro j h1 h2
                simp [cntOf, flP]
            have hini : Hid (OuR wr w.heap.size n w.heap.size (lev F i) K K (.int .i64 0) wr) := ⟨0, rfl, Nat.zero_le _, by rw [hz0]; exact ho3, Chg.refl _ _, rfl⟩
            have hbwr := hbw2.trans (hbi.mono hbw2.size)
            have HE := Lib.hid (⟨hpi.out, hK, hKq, hq3, hg3, hg3', hbwr, hq3l, hsmP⟩ : PckR wr wr.heap.size (fun g => g < w.heap.size + 1) (some ⟨g3, 0, none⟩) q3 (lev F i) ∧ 2 * q - 2 = K ∧ K ≤ q3 ∧ q3 ≤ c3 ∧ w.heap.size + 1 ≤ g3 ∧ g3 < wr.heap.size ∧ Below w.heap.size w wr ∧ q3 = (lev F i).length ∧ SmP (lev F i))
            clear hz0 ho3 ho2 hbw2 hK hKq hq3 hg3 hg3' hbwr hq3l hsmP hpi hfew hge hmm15 hp40 hp40I him hlt hbi hji hjz0 hjz1 hjz2 hFl
            obtain ⟨ws, hws⟩ : ∃ ws, ws = wr := ⟨_, rfl⟩
            subst hws
            go_wp2_with fail
            go_loopg [58] K (OuR ws w.heap.size n w.heap.size (lev F i) K)
            case atStart => exact hini.out
            case round =>
              clear hini hsl
              obtain ⟨j, rfl, hjK, ho, hch, hk2⟩ := hrel
              by_cases hj : j < K
              · have hjI : (j : Int) < (K : Int) ∧ (0 : Int) ≤ j := by omega
                obtain ⟨⟨D, hrd, hme⟩, e2, e3, e4, e5, e6, e7, e8, e9⟩ := HE.out
                have hDl : D.length = (lev F i).length := hme.length
                have hm := hme.at_ (0, none, 0, 0) ⟨0, []⟩ j (by omega)
                change MeanE _ _ _ (el D j) _ at hm
                obtain ⟨p, hp⟩ : ∃ p, (lev F i).getD j ⟨0, []⟩ = p := ⟨_, rfl⟩
                obtain ⟨x, hx⟩ : ∃ x, el D j = x := ⟨_, rfl⟩
                rw [hp, hx] at hm
                have hpm : p ∈ lev F i := by
                  rw [← hp, List.getD_eq_getElem?_getD, List.getElem?_eq_getElem (by omega)]
                  exact List.getElem_mem _
                have htk : (lev F i).take (j + 1) = (lev F i).take j ++ [p] := by
                  rw [List.take_succ_eq_append_getElem (by omega), ← hp]
                  simp [show j < (lev F i).length by omega]
                obtain ⟨xw, xA, xn, xc⟩ := x
                obtain ⟨ad, had, hadB, hcells⟩ := hrd.2 (by omega)
                obtain rfl : ad = ⟨g3, 0, none⟩ := by injection had with had; exact had.symm
                have hgo : ¬ g3 = w.heap.size := by omega
                have cell : ∀ t, t < q3 * 2 → wr.cell? ⟨g3, t, none⟩ = some (dF D t) := fun t ht => by
                  have := hcells t ht
                  rw [addr0] at this
                  exact (hch.cell (p := ⟨g3, t, none⟩) e6 hgo).trans this
                have a0 := cell (j * 2) (by omega)
                have a1 := cell (j * 2 + 1) (by omega)
                rw [dF_even D rfl, hx] at a0
                rw [dF_odd D rfl, hx] at a1
                replace a0 : wr.cell? ⟨g3, j * 2, none⟩ = some (.int .i64 xw) := a0
                replace a1 : wr.cell? ⟨g3, j * 2 + 1, none⟩ = some (.slice xA xn xc) := a1
                have hxn : xn = p.l.length := hm.2.1.1
                have hpl := (e9 p hpm).2.2
                have hxnI : (0 : Int) ≤ xn ∧ (xn : Int) ≤ 400000 := by omega
                have hgr : g3 < wr.heap.size := Nat.lt_of_lt_of_le e6 hch.size
                have hgr2 : ¬ g3 = wr.heap.size := by omega
                have HP := Lib.hid (⟨hm, hpm, htk, hxn, hj, hch, ho⟩ : MeanE ws ws.heap.size (fun g => g < w.heap.size + 1) (xw, xA, xn, xc) p ∧ p ∈ lev F i ∧ (lev F i).take (j + 1) = (lev F i).take j ++ [p] ∧ xn = p.l.length ∧ j < K ∧ Chg ws wr (fun x => x = w.heap.size) ∧ OwnI .i64 wr w.heap.size 3 (some ⟨w.heap.size, 0, none⟩) n n (cntOf n (flP ((lev F i).take j))))
                have hini : Hid (InrR ws w.heap.size n w.heap.size (flP ((lev F i).take j)) p.l xn (.int .i64 0) (wr.alloc (.cells #[.int .i64 xw, .slice xA xn xc] 129))) := ⟨0, rfl, Nat.zero_le _, by rw [List.take_zero, List.append_nil]; exact ho.alloc _, hch.alloc _, by show xn = _; omega⟩
                clear cell hcells hp hx had hadB hme hrd hm hpm htk hxn hj hch ho hDl e2 e3 e4 e5 e6 e7 e8 e9 hpl hgo
                go_wp2_with fail
                go_loopg [65] xn (InrR ws w.heap.size n w.heap.size (flP ((lev F i).take j)) p.l)
                case atStart => exact hini.out
                case round =>
                  clear hini a0 a1
                  obtain ⟨t, rfl, htl, ho, hch, hk3⟩ := hrel
                  obtain ⟨hm, hpm, htk, hxn, hj, hch0, ho0⟩ := HP.out
                  by_cases ht : t < xn
                  · have htI : (t : Int) < (xn : Int) ∧ (0 : Int) ≤ t := by omega
                    have hne0 : ∀ gx, blkOf xA = some gx → ¬ gx = w.heap.size := fun gx hgx => by have := hm.2.2 (show 0 < xn by omega) gx hgx; omega
                    have rl := hch.rdI hm.2.1 (Nat.le_refl _) (fun _ ad e1 hs => hne0 ad.block (by have e2 : xA = some ad := e1; rw [e2]; rfl) hs)
                    obtain ⟨ad2, had2, hlt2, hcell⟩ := rl.at_ (i := t) ht
                    subst had2
                    obtain ⟨sy, hsy⟩ : ∃ sy, ix p.l t = sy := ⟨_, rfl⟩
                    rw [hsy] at hcell
                    have hsyl : sy ∈ p.l := by rw [← hsy]; exact ix_mem (by omega)
                    have hsS : sy ∈ S := by
                      rw [← HFD.out] at hpm
                      exact (lev_weight (fqI f) S i p hpm).2 sy hsyl
                    obtain ⟨sn, hsn, rfl⟩ := pos_mem sy (HS.out.1.mem_iff.1 hsS)
                    have hsnn : sn < n := by have := HNF.out; omega
                    obtain ⟨T, hT⟩ : ∃ T, flP ((lev F i).take j) ++ p.l.take t = T := ⟨_, rfl⟩
                    have hcnt : T.count (sn : Int) ≤ 15 := by
                      have h1 := count_pre (t := t) hj htk (sn : Int)
                      rw [hT] at h1
                      have h2 := (limit_law (f := fqI f) (S := S) (m := mm) ((HS.out.1.nodup_iff).2 (pos_nodup f _)) HS.out.2.le (fun s hs => by
                        obtain ⟨k, hk, rfl⟩ := pos_mem s (HS.out.1.mem_iff.1 hs)
                        unfold fqI
                        rw [Int.toNat_natCast]
                        exact (HO.out.2.1 k hk).1) (by have := HPK.out; have := HQ.out; omega) HO.out.2.2.2.1 (by
                        rw [HS.out.1.length_eq]
                        have := HO.out.2.2.1
                        rwa [Int.toNat_natCast] at this)).bd (sn : Int) hsS
                      have h3 : (flP ((lev F i).take K)).count (sn : Int) = lenP (fqI f) S mm (sn : Int) := by
                        unfold lenP takenP
                        rw [HFD.out, show mm - 1 = i by have := HPK.out; omega, show 2 * S.length - 2 = K by have := HE.out.2.1; have := HQ.out.1; omega]
                      have h4 := HO.out.2.2.2.2
                      omega
                    rw [hT] at ho
                    have hsnL : sn < (cntOf n T).length := by rw [cntOf_length]; exact hsnn
                    have co := ho.2.cell (i := sn) (by omega)
                    have cz := (Own.ar ho.2).frozen' (i := sn) (by omega)
                    obtain ⟨v, hv⟩ : ∃ v, ix (cntOf n T) sn = v := ⟨_, rfl⟩
                    rw [hv] at co
                    have hvI : (0 : Int) ≤ v ∧ v ≤ 15 := by rw [← hv, ix_cnt T hsnn]; omega
                    have hput := ho.put hsnn (v + 1)
                    rw [← hv, ← cnt_push T rfl hsnn] at hput
                    rw [hv] at hput
                    have hch2 := hch.setCell (p := ⟨w.heap.size, sn, none⟩) (.inl rfl) (.int .i64 (v + 1))
                    have htk2 : flP ((lev F i).take j) ++ p.l.take (t + 1) = T ++ [(sn : Int)] := by
                      rw [← hT, List.append_assoc]
                      congr 1
                      have hlt3 : t < p.l.length := by omega
                      rw [List.take_succ_eq_append_getElem hlt3, ← hsy]
                      simp [ix, hlt3]
                    have hsnI : (0 : Int) ≤ sn ∧ (sn : Int) < n := by omega
                    have HR := Lib.hid (⟨hput, hch2, htk2, htl, ht, hxn⟩ : _ ∧ _ ∧ _ ∧ _ ∧ _ ∧ _)
                    clear hput hch2 htk2 htl ht hxn hcnt hsnL hv hT hsyl hsS hsy rl hne0 hlt2 hm hpm htk hj hch0 ho0 hsn hsnn ho hch
                    go_wp2_with fail
                    go_roundg (xn - (t + 1))
                    case measure => have := hk3.out; have := HR.out; omega
                    case rel =>
                      obtain ⟨q1, q2, q3', q4, q5, q6⟩ := HR.out
                      exact ⟨t + 1, by go_num, by omega, by rw [q3']; exact q1, q2, by show _ = _; omega⟩
                  · have htI : ¬ (t : Int) < (xn : Int) := by omega
                    have hfull : flP ((lev F i).take j) ++ p.l.take t = flP ((lev F i).take (j + 1)) := by
                      have hfl : p.l.take t = p.l := List.take_of_length_le (by omega)
                      rw [htk, flP_append, hfl]
                      simp [flP]
                    rw [hfull] at ho
                    have HR := Lib.hid (⟨ho, hch, hj⟩ : _ ∧ _ ∧ j < K)
                    clear ho hch hj hfull hm hpm htk hxn hch0 ho0 ht
                    go_wp2_with fail
                    go_roundg (K - (j + 1))
                    case measure => have := hk2.out; have := HR.out.2.2; omega
                    case rel => exact ⟨j + 1, by go_num, by have := HR.out.2.2; omega, HR.out.1, HR.out.2.1, rfl⟩
              · have hjK' : j = K := by omega
                subst hjK'
                have hjI : ¬ (j : Int) < (j : Int) := by omega
                obtain ⟨hpe, e2, e3, e4, e5, e6, e7, e8, e9⟩ := HE.out
                have hbf : Below w.heap.size w wr := e7.trans (hch.below (fun k hk => by subst hk; exact Nat.le_refl _) e7.size)
                have hres : LenRes f ((mm : Int)).toNat (cntOf n (flP ((lev F i).take j))) := by
                  refine ⟨by rw [cntOf_length]; exact HNF.out, .inr (.inr ⟨S, HS.out.1, HS.out.2, by have := HPK.out; have := HQ.out; omega, fun i' hi' => ?_⟩)⟩
                  rw [ix_cnt _ (by have := HNF.out; omega), Int.toNat_natCast]
                  unfold lenP takenP
                  rw [HFD.out, show mm - 1 = i by have := HPK.out; omega, show 2 * S.length - 2 = j by have := HQ.out.1; omega]
                have hfin := Lib.hid (LimPost.mk HMV.out (cntOf_length ..) hbf ho hres)
                clear hpe e2 e3 e4 e5 e6 e7 e8 e9 hbf hres ho hch hj hjK
                go_wp2_with fail
                go_returns
                exact hfin.out
  · have hne : (mv != 0) = true := by simpa using hv0
    have HV0 := Lib.hid hv0
    have hpost : Hid (LimPost w f m (.returned (.tuple #[.slice none 0 0, .int .i64 mv])) w) :=
      ⟨none, 0, [], by rw [HMV.out]; rfl, Below.refl _ _, OwnI.nil_, fun _ => rfl, fun h => absurd (HMV.out.symm.trans h) HV0.out⟩
    clear hmv hr hnf hi hz0 hz1 hz2 hv0 hnm HNF HMV
    go_enter Try.func66, Try.ntmps66
    go_wp2_with fail
    refine HCK.out.mono ?_
    rintro e w1 ⟨rfl, rfl⟩
    go_wp2_with fail
    go_returns
    exact hpost.out
end Go.Proofs.Ytlgkiookobedcaa
namespace Go.Proofs.Ytlgkiookobedcaa
open Go.RowKit
set_option linter.unusedVariables false
theorem chk_ok {l : List Int} {most : Int} (h : checkOf l most = 0) : l.length ≤ 288 ∧ (∀ i, i < l.length → 0 ≤ ix l i ∧ ix l i ≤ 15) ∧ sumTo l l.length ≤ 32768 := by
  unfold checkOf at h
  split at h
  · simp at h
  · split at h
    · simp at h
    · split at h
      · simp at h
      · rename_i h1 h2 h3
        refine ⟨by omega, ?_, by omega⟩
        have : inTo l most l.length = true := by simpa using h2
        have h4 : ∀ i, i < l.length → 0 ≤ ix l i ∧ ix l i ≤ most := by simpa [inTo] using this
        exact fun i hi => ⟨(h4 i hi).1, by have := (h4 i hi).2; omega⟩
theorem fqI_nat (f : List Int) (k : Nat) : fqI f (k : Int) = ix f k := by unfold fqI; rw [Int.toNat_natCast]
theorem pos_gt {f : List Int} : ∀ k : Nat, ∀ s, s ∈ posI f k ↔ ∃ i : Nat, i < k ∧ s = (i : Int) ∧ 0 < ix f i
  | 0, s => ⟨fun h => by simp [posI] at h, fun ⟨i, h, _⟩ => absurd h (by omega)⟩
  | k + 1, s => by
    rw [posI, List.mem_append, pos_gt k s]
    constructor
    · rintro (⟨i, h1, h2, h3⟩ | h)
      · exact ⟨i, by omega, h2, h3⟩
      · split at h
        · exact ⟨k, by omega, by simpa using h, ‹_›⟩
        · simp at h
    · rintro ⟨i, h1, rfl, h3⟩
      by_cases e : i = k
      · subst e; right; rw [if_pos h3]; simp
      · exact .inl ⟨i, by omega, rfl, h3⟩
theorem cost_pos (l f : List Int) : ∀ k : Nat, (∀ i, i < k → 0 < ix f i → ix f i ≤ 1048576 ∧ 0 ≤ ix l i ∧ ix l i ≤ 1048576) → costTo l f k = ((posI f k).map fun s => fqI f s * ix l s.toNat).sum
  | 0, _ => rfl
  | k + 1, h => by
    have ih := cost_pos l f k fun i hi => h i (by omega)
    rw [costTo, posI, List.map_append, List.sum_append, ih]
    congr 1
    by_cases hp : 0 < ix f k
    · obtain ⟨h1, h2, h3⟩ := h k (by omega) hp
      rw [if_pos hp]
      show _ = (List.map _ [(k : Int)]).sum
      rw [List.map_cons, List.map_nil, List.sum_cons, List.sum_nil, fqI_nat, Int.toNat_natCast]
      by_cases h0 : 0 < ix l k
      · rw [costOf_yes h0 hp h1 h3, Int.mul_comm]; omega
      · have : ix l k = 0 := by omega
        rw [costOf_no (by omega), this]; omega
    · rw [if_neg hp, costOf_no (by omega)]; rfl
theorem kraft_pos (l f : List Int) (m : Nat) (hm : m ≤ 15) : ∀ k : Nat, (∀ i, i < k → 0 < ix f i → 1 ≤ ix l i ∧ ix l i ≤ m) → ((posI f k).map fun s => 2 ^ (m - (ix l s.toNat).toNat)).sum * 2 ^ (15 - m) ≤ sumTo l k
  | 0, _ => by simp [posI, sumTo]
  | k + 1, h => by
    have ih := kraft_pos l f m hm k fun i hi => h i (by omega)
    rw [sumTo, posI, List.map_append, List.sum_append, Nat.add_mul]
    refine Nat.add_le_add ih ?_
    by_cases hp : 0 < ix f k
    · obtain ⟨h1, h2⟩ := h k (by omega) hp
      rw [if_pos hp]
      show (List.map _ [(k : Int)]).sum * _ ≤ _
      rw [List.map_cons, List.map_nil, List.sum_cons, List.sum_nil, Int.toNat_natCast, Nat.add_zero]
      obtain ⟨v, hv⟩ := Int.eq_ofNat_of_zero_le (show 0 ≤ ix l k by omega)
      have hv : ix l k = (v : Int) := hv
      rw [hv] at h1 h2 ⊢
      rw [share_yes (by omega) (by omega), Int.toNat_natCast, p15, ← Nat.pow_add, show m - v + (15 - m) = 15 - v by omega]
      exact Nat.le_refl _
    · rw [if_neg hp]; simp
theorem LenRes.least {f L o : List Int} {m : Nat} (hR : LenRes f m L) (hmv : mayV f (m : Int) = 0) (hc : checkOf o (m : Int) = 0) (hlen : o.length = f.length) (hall : ∀ i, i < f.length → 0 < ix f i → ix o i ≠ 0) (h2 : 2 ≤ (posI f f.length).length) : costTo L f f.length ≤ costTo o f f.length := by
  obtain ⟨m1, m2, m3, m4, m5⟩ := may_ok hmv
  rw [Int.toNat_natCast] at m5
  obtain ⟨c1, c2, c3⟩ := chk_ok hc
  have c4 : ∀ i, i < f.length → 0 ≤ ix o i ∧ ix o i ≤ m := by
    unfold checkOf at hc
    split at hc
    · simp at hc
    · split at hc
      · simp at hc
      · rename_i hh1 hh2
        have : inTo o m o.length = true := by simpa using hh2
        intro i hi
        exact of_decide_eq_true this i (by omega)
  obtain ⟨-, hR⟩ := hR
  rcases hR with ⟨h, _⟩ | ⟨s, h, _⟩ | ⟨S, hp, hs, hS2, hL⟩
  · rw [h] at h2; simp at h2
  · rw [h] at h2; simp at h2
  · have hmem : ∀ s ∈ S, ∃ i : Nat, i < f.length ∧ s = (i : Int) ∧ 0 < ix f i := fun s hs => (pos_gt _ s).1 (hp.mem_iff.1 hs)
    have hlaw := limit_law (f := fqI f) (S := S) (m := m) (hp.nodup_iff.2 (pos_nodup f f.length)) hs.le (fun s hs => by
      obtain ⟨i, hi, rfl, _⟩ := hmem s hs
      rw [fqI_nat]; exact (m4 i hi).1) hS2 (by omega) (by rw [hp.length_eq]; exact m5)
    have hbd : ∀ i, i < f.length → 0 < ix f i → ix f i ≤ 1048576 ∧ 0 ≤ ix L i ∧ ix L i ≤ 1048576 := fun i hi h0 => by
      have := hL i hi
      have hm2 : (i : Int) ∈ S := hp.mem_iff.2 ((pos_gt _ _).2 ⟨i, hi, rfl, h0⟩)
      have := (hlaw.bd _ hm2).2
      have := (m4 i hi).2
      omega
    rw [cost_pos L f f.length hbd, cost_pos o f f.length fun i hi h0 => by have := c4 i hi; have := (m4 i hi).2; omega]
    have hk := kraft_pos o f m (by omega) f.length fun i hi h0 => by have := c4 i hi; have := hall i hi h0; omega
    have hkr : (S.map fun s => 2 ^ (m - (ix o s.toNat).toNat)).sum ≤ 2 ^ m := by
      rw [sum_perm (hp.map _)]
      rw [hlen] at c3
      have h15 : (32768 : Nat) = 2 ^ m * 2 ^ (15 - m) := by rw [← Nat.pow_add, show m + (15 - m) = 15 by omega]
      exact Nat.le_of_mul_le_mul_right (by omega : _ * 2 ^ (15 - m) ≤ 2 ^ m * 2 ^ (15 - m)) (Nat.two_pow_pos _)
    have hle := hlaw.least (fun s => (ix o s.toNat).toNat) (fun s hs => by
      obtain ⟨i, hi, rfl, _⟩ := hmem s hs
      rw [Int.toNat_natCast]; have := c4 i hi; omega) hkr
    have e1 : ((posI f f.length).map fun s => fqI f s * ix L s.toNat).sum = (S.map fun s => fqI f s * ((lenP (fqI f) S m s : Nat) : Int)).sum := by
      rw [← sumI_perm (hp.map _)]
      congr 1
      refine List.map_congr_left fun s hs => ?_
      obtain ⟨i, hi, rfl, _⟩ := hmem s hs
      rw [Int.toNat_natCast, hL i hi]
    have e2 : ((posI f f.length).map fun s => fqI f s * ix o s.toNat).sum = (S.map fun s => fqI f s * (((ix o s.toNat).toNat : Nat) : Int)).sum := by
      rw [← sumI_perm (hp.map _)]
      congr 1
      refine List.map_congr_left fun s hs => ?_
      obtain ⟨i, hi, rfl, _⟩ := hmem s hs
      rw [Int.toNat_natCast]
      have := (c4 i hi).1
      congr 1; omega
    rw [e1, e2]; exact hle
end Go.Proofs.Ytlgkiookobedcaa
namespace Go.Proofs.Ytlgkiookobedcaa
open Go.RowKit
set_option linter.unusedVariables false
def cstP (f : List Int) (h : Int → Int) : Int := ((posI f f.length).map fun s => fqI f s * h s).sum
def krP (f : List Int) (m : Nat) (h : Int → Nat) : Nat := ((posI f f.length).map fun s => 2 ^ (m - h s)).sum
theorem LenRes.three {f L : List Int} {m : Nat} (hR : LenRes f m L) (hmv : mayV f (m : Int) = 0) (h2 : 2 ≤ (posI f f.length).length) :
    (∀ s ∈ posI f f.length, 1 ≤ ix L s.toNat ∧ ix L s.toNat ≤ m) ∧ krP f m (fun s => (ix L s.toNat).toNat) = 2 ^ m ∧ costTo L f f.length = cstP f (fun s => ix L s.toNat) ∧
    (∀ s ∈ posI f f.length, ∀ t ∈ posI f f.length, fqI f s < fqI f t → ix L t.toNat ≤ ix L s.toNat) ∧
    ∀ h : Int → Nat, (∀ s ∈ posI f f.length, h s ≤ m) → krP f m h ≤ 2 ^ m → costTo L f f.length ≤ cstP f (fun s => h s) := by
  obtain ⟨m1, m2, m3, m4, m5⟩ := may_ok hmv
  rw [Int.toNat_natCast] at m5
  obtain ⟨-, hR⟩ := hR
  rcases hR with ⟨h, _⟩ | ⟨s, h, _⟩ | ⟨S, hp, hs, hS2, hL⟩
  · rw [h] at h2; simp at h2
  · rw [h] at h2; simp at h2
  · have hmem : ∀ s ∈ S, ∃ i : Nat, i < f.length ∧ s = (i : Int) ∧ 0 < ix f i := fun s hs => (pos_gt _ s).1 (hp.mem_iff.1 hs)
    have hlaw := limit_law (f := fqI f) (S := S) (m := m) (hp.nodup_iff.2 (pos_nodup f f.length)) hs.le (fun s hs => by
      obtain ⟨i, hi, rfl, _⟩ := hmem s hs
      rw [fqI_nat]; exact (m4 i hi).1) hS2 (by omega) (by rw [hp.length_eq]; exact m5)
    have hv : ∀ s ∈ S, ix L s.toNat = ((lenP (fqI f) S m s : Nat) : Int) := fun s hs => by
      obtain ⟨i, hi, rfl, _⟩ := hmem s hs
      rw [Int.toNat_natCast, hL i hi]
    have hbd : ∀ i, i < f.length → 0 < ix f i → ix f i ≤ 1048576 ∧ 0 ≤ ix L i ∧ ix L i ≤ 1048576 := fun i hi h0 => by
      have := hL i hi
      have hm2 : (i : Int) ∈ S := hp.mem_iff.2 ((pos_gt _ _).2 ⟨i, hi, rfl, h0⟩)
      have := (hlaw.bd _ hm2).2
      have := (m4 i hi).2
      omega
    have e1 : costTo L f f.length = cstP f (fun s => ix L s.toNat) := cost_pos L f f.length hbd
    have e3 : cstP f (fun s => ix L s.toNat) = (S.map fun s => fqI f s * ((lenP (fqI f) S m s : Nat) : Int)).sum := by
      unfold cstP
      rw [← sumI_perm (hp.map _)]
      congr 1
      exact List.map_congr_left fun s hs => by show _ * ix L s.toNat = _; rw [hv s hs]
    refine ⟨fun s hs => ?_, ?_, e1, fun s hs t ht hst => ?_, fun h hh hk => ?_⟩
    · have hs := hp.mem_iff.2 hs
      rw [hv s hs]
      have := hlaw.bd s hs
      omega
    · unfold krP
      rw [← sum_perm (hp.map _), ← hlaw.whole]
      congr 1
      exact List.map_congr_left fun s hs => by show 2 ^ (m - (ix L s.toNat).toNat) = _; rw [hv s hs, Int.toNat_natCast]
    · have hs := hp.mem_iff.2 hs
      have ht := hp.mem_iff.2 ht
      rw [hv s hs, hv t ht]
      have := hlaw.order s hs t ht hst
      omega
    · rw [e1, e3]
      have := hlaw.least h (fun s hs => hh s (hp.mem_iff.1 hs)) (by rw [sum_perm (hp.map _)]; exact hk)
      unfold cstP
      rw [← sumI_perm (hp.map _)]
      exact this
theorem LenRes.few {f L L' : List Int} {m m' : Nat} (hR : LenRes f m L) (hR' : LenRes f m' L') (h2 : (posI f f.length).length < 2) : ∀ i, i < f.length → ix L i = ix L' i := by
  obtain ⟨-, hR⟩ := hR
  obtain ⟨-, hR'⟩ := hR'
  rcases hR with ⟨h, h1⟩ | ⟨s, h, h1⟩ | ⟨S, hp, hs, hS2, hL⟩
  · rcases hR' with ⟨h', h1'⟩ | ⟨s', h', h1'⟩ | ⟨S', hp', hs', hS2', hL'⟩
    · intro i hi; rw [h1 i hi, h1' i hi]
    · rw [h] at h'; simp at h'
    · rw [hp'.length_eq] at hS2'; omega
  · rcases hR' with ⟨h', h1'⟩ | ⟨s', h', h1'⟩ | ⟨S', hp', hs', hS2', hL'⟩
    · rw [h] at h'; simp at h'
    · rw [h] at h'
      obtain rfl : s = s' := by simpa using h'
      intro i hi; rw [h1 i hi, h1' i hi]
    · rw [hp'.length_eq] at hS2'; omega
  · rw [hp.length_eq] at hS2; omega
theorem costTo_congr {l l' f : List Int} : ∀ k : Nat, (∀ i, i < k → ix l i = ix l' i) → costTo l f k = costTo l' f k
  | 0, _ => rfl
  | k + 1, h => by rw [costTo, costTo, costTo_congr k fun i hi => h i (by omega), h k (by omega)]
theorem LenRes.grow {f L L' : List Int} {m : Nat} (hR : LenRes f m L) (hR' : LenRes f (m + 1) L') (hmv : mayV f (m : Int) = 0) (hmv' : mayV f ((m + 1 : Nat) : Int) = 0) : costTo L' f f.length ≤ costTo L f f.length := by
  by_cases h2 : 2 ≤ (posI f f.length).length
  · obtain ⟨a1, a2, a3, -, -⟩ := hR.three hmv h2
    obtain ⟨-, -, -, -, b5⟩ := hR'.three hmv' h2
    have hk : krP f (m + 1) (fun s => (ix L s.toNat).toNat) = 2 ^ (m + 1) := by
      rw [Nat.pow_succ, ← a2]
      unfold krP
      generalize hP : posI f f.length = P at a1
      clear b5 a2 a3 h2 hP
      induction P with
      | nil => rfl
      | cons s P ih =>
        have := ih fun t ht => a1 t (by simp [ht])
        have := a1 s (by simp)
        rw [List.map_cons, List.map_cons, List.sum_cons, List.sum_cons, Nat.add_mul, ‹(P.map _).sum = _›, ← Nat.pow_succ]
        congr 2
        show m + 1 - (ix L s.toNat).toNat = m - (ix L s.toNat).toNat + 1
        omega
    have := b5 (fun s => (ix L s.toNat).toNat) (fun s hs => by have := a1 s hs; omega) (by rw [hk]; exact Nat.le_refl _)
    rw [a3]
    refine Int.le_trans this (Int.le_of_eq ?_)
    unfold cstP
    congr 1
    exact List.map_congr_left fun s hs => by have := (a1 s hs).1; show _ * (((ix L s.toNat).toNat : Nat) : Int) = _ * ix L s.toNat; congr 1; omega
  · rw [costTo_congr f.length (LenRes.few hR hR' (by omega))]
    exact Int.le_refl _
theorem LenRes.order {f L : List Int} {m : Nat} (hR : LenRes f m L) (hmv : mayV f (m : Int) = 0) {i j : Nat} (hi : i < f.length) (hj : j < f.length) (hij : ix f j < ix f i) (h0 : 0 < ix f j) : ix L i ≤ ix L j := by
  have hpi : (i : Int) ∈ posI f f.length := (pos_gt _ _).2 ⟨i, hi, rfl, by omega⟩
  have hpj : (j : Int) ∈ posI f f.length := (pos_gt _ _).2 ⟨j, hj, rfl, h0⟩
  have h2 : 2 ≤ (posI f f.length).length := by
    rcases hP : posI f f.length with _ | ⟨a, _ | ⟨b, P⟩⟩
    · rw [hP] at hpi; simp at hpi
    · rw [hP] at hpi hpj
      simp at hpi hpj
      have : i = j := by omega
      subst this; omega
    · simp
  obtain ⟨-, -, -, a4, -⟩ := hR.three hmv h2
  have := a4 j hpj i hpi (by rw [fqI_nat, fqI_nat]; exact hij)
  simpa using this
end Go.Proofs.Ytlgkiookobedcaa
namespace Go.Proofs.Ytlgkiookobedcaa
open Go.RowKit
set_option linter.unusedVariables false
theorem kraft_eq (l f : List Int) (m : Nat) (hm : m ≤ 15) : ∀ k : Nat, (∀ i, i < k → if 0 < ix f i then 1 ≤ ix l i ∧ ix l i ≤ m else ix l i = 0) → ((posI f k).map fun s => 2 ^ (m - (ix l s.toNat).toNat)).sum * 2 ^ (15 - m) = sumTo l k
  | 0, _ => by simp [posI, sumTo]
  | k + 1, h => by
    have ih := kraft_eq l f m hm k fun i hi => h i (by omega)
    rw [sumTo, posI, List.map_append, List.sum_append, Nat.add_mul, ih]
    congr 1
    have hk := h k (by omega)
    by_cases hp : 0 < ix f k
    · rw [if_pos hp] at hk
      obtain ⟨h1, h2⟩ := hk
      rw [if_pos hp]
      show (List.map _ [(k : Int)]).sum * _ = _
      rw [List.map_cons, List.map_nil, List.sum_cons, List.sum_nil, Int.toNat_natCast, Nat.add_zero]
      obtain ⟨v, hv⟩ := Int.eq_ofNat_of_zero_le (show 0 ≤ ix l k by omega)
      have hv : ix l k = (v : Int) := hv
      rw [hv] at h1 h2 ⊢
      rw [share_yes (by omega) (by omega), Int.toNat_natCast, p15, ← Nat.pow_add, show m - v + (15 - m) = 15 - v by omega]
    · rw [if_neg hp] at hk
      rw [if_neg hp, hk, share_no (by omega)]
      simp
structure SndF (l f : List Int) (n : Nat) (m : Int) : Prop where
  len : l.length = n
  each : ∀ i, i < n → (0 < ix l i ↔ 0 < ix f i) ∧ 0 ≤ ix l i ∧ ix l i ≤ m
  few : (posI f n).length < 2 → (sumTo l n : Int) = 16384 * ((posI f n).length : Int)
  many : 2 ≤ (posI f n).length → sumTo l n = 32768
theorem sum_zero {l : List Int} : ∀ k : Nat, (∀ i, i < k → ix l i = 0) → sumTo l k = 0
  | 0, _ => rfl
  | k + 1, h => by rw [sumTo, sum_zero k fun i hi => h i (by omega), h k (by omega), share_no (by omega)]
theorem LenRes.snd {f L : List Int} {m : Nat} (hR : LenRes f m L) (hmv : mayV f (m : Int) = 0) : SndF L f f.length m := by
  obtain ⟨m1, m2, m3, m4, m5⟩ := may_ok hmv
  by_cases h2 : 2 ≤ (posI f f.length).length
  · obtain ⟨h1, hk, -, -, -⟩ := hR.three hmv h2
    have hzero : ∀ i, i < f.length → ¬ 0 < ix f i → ix L i = 0 := fun i hi h0 => by
      obtain ⟨-, hR⟩ := hR
      rcases hR with ⟨h, h'⟩ | ⟨s, h, h'⟩ | ⟨S, hp, hs, hS2, hL⟩
      · exact h' i hi
      · rw [h' i hi, if_neg fun e => ?_]
        have : (i : Int) ∈ posI f f.length := by rw [h, e]; simp
        obtain ⟨j, _, e2, h3⟩ := (pos_gt _ _).1 this
        have : i = j := by omega
        subst this; exact h0 h3
      · rw [hL i hi]
        have hni : (i : Int) ∉ S := fun hm => by
          obtain ⟨j, _, e2, h3⟩ := (pos_gt _ _).1 (hp.mem_iff.1 hm)
          have : i = j := by omega
          subst this; exact h0 h3
        have hmem : ∀ s ∈ S, ∃ i : Nat, i < f.length ∧ s = (i : Int) ∧ 0 < ix f i := fun s hs => (pos_gt _ s).1 (hp.mem_iff.1 hs)
        have hlaw := limit_law (f := fqI f) (S := S) (m := m) (hp.nodup_iff.2 (pos_nodup f f.length)) hs.le (fun s hs => by
          obtain ⟨i, hi, rfl, _⟩ := hmem s hs
          rw [fqI_nat]; exact (m4 i hi).1) hS2 (by omega) (by rw [hp.length_eq]; rw [Int.toNat_natCast] at m5; exact m5)
        rw [hlaw.out _ hni]; rfl
    have hall : ∀ i, i < f.length → 0 < ix f i → 1 ≤ ix L i ∧ ix L i ≤ m := fun i hi h0 => by
      have := h1 (i : Int) ((pos_gt _ _).2 ⟨i, hi, rfl, h0⟩)
      rw [Int.toNat_natCast] at this
      exact this
    refine ⟨hR.1, fun i hi => ?_, fun h => by omega, fun _ => ?_⟩
    · by_cases h0 : 0 < ix f i
      · have := hall i hi h0; omega
      · have := hzero i hi h0; omega
    · have he := kraft_eq L f m (by omega) f.length fun i hi => by
        by_cases h0 : 0 < ix f i
        · rw [if_pos h0]; exact hall i hi h0
        · rw [if_neg h0]; exact hzero i hi h0
      unfold krP at hk
      rw [← he, hk, ← Nat.pow_add, show m + (15 - m) = 15 by omega]
  · obtain ⟨hlen, hR⟩ := hR
    rcases hR with ⟨h, h'⟩ | ⟨s, h, h'⟩ | ⟨S, hp, hs, hS2, hL⟩
    · refine ⟨hlen, fun i hi => ?_, fun _ => ?_, fun h3 => absurd h3 h2⟩
      · have hn : ¬ 0 < ix f i := fun h0 => by
          have := (pos_gt f.length (i : Int)).2 ⟨i, hi, rfl, h0⟩
          rw [h] at this; simp at this
        have := h' i hi; omega
      · rw [sum_zero _ h', h]; rfl
    · obtain ⟨j, hj, rfl, hj0⟩ := (pos_gt f.length s).1 (by rw [h]; simp)
      have hiff : ∀ i, i < f.length → (0 < ix f i ↔ i = j) := fun i hi => by
        constructor
        · intro h0
          have := (pos_gt f.length (i : Int)).2 ⟨i, hi, rfl, h0⟩
          rw [h] at this
          have := List.mem_singleton.1 this
          omega
        · rintro rfl; exact hj0
      have hv : ∀ i, i < f.length → ix L i = if i = j then 1 else 0 := fun i hi => by
        rw [h' i hi]
        by_cases e : i = j
        · rw [if_pos e, if_pos (by omega)]
        · rw [if_neg e, if_neg (by omega)]
      have hsum : ∀ k, k ≤ f.length → sumTo L k = if j < k then 16384 else 0 := fun k => by
        induction k with
        | zero => intro _; rfl
        | succ k ih =>
          intro hk
          rw [sumTo, ih (by omega), hv k (by omega)]
          by_cases e : k = j
          · subst e
            rw [if_neg (by omega), if_pos rfl, if_pos (by omega)]
            have := share_yes (v := 1) (by omega) (by omega)
            have e1 : share 1 = p15 1 := this
            rw [e1]; rfl
          · rw [if_neg e, share_no (by omega)]
            by_cases e2 : j < k
            · rw [if_pos e2, if_pos (by omega)]
            · rw [if_neg e2, if_neg (by omega)]
      refine ⟨hlen, fun i hi => ?_, fun _ => ?_, fun h3 => absurd h3 h2⟩
      · have h5 := hv i hi
        have h6 := hiff i hi
        by_cases e : i = j
        · rw [if_pos e] at h5; have := h6.2 e; omega
        · rw [if_neg e] at h5
          have : ¬ 0 < ix f i := fun h => e (h6.1 h)
          omega
      · rw [hsum _ (Nat.le_refl _), if_pos hj, h]; rfl
    · rw [hp.length_eq] at hS2; exact absurd hS2 h2
end Go.Proofs.Ytlgkiookobedcaa
