/-
  Several texts in one (written by pack2.py): PlnV, BkZ.
-/
import Derived.Test.YtckhkkjdibcclaaPk24
import Derived.Test.YtckhkkjdibcclaaPk23
import Derived.Test.YtckhkkjdibcclaaPk21
/-
  The walk of plan.write.
-/
namespace Go.Proofs.Ytckhkkjdibcclaa
open Go.RowKit
set_option linter.unusedVariables false
/-- the bits of the third code's lengths -/
def ordB (hd : List Int) (k : Nat) : List Int := (ordQ.take k).flatMap fun (o : Int) => ofN (ix hd o.toNat) 3
def rnB (hd : List Int) (r : Rn) : List Int := symBits hd r.c.toNat ++ ofN r.v r.e.toNat
def rnsB (hd : List Int) (rs : List Rn) : List Int := rs.flatMap (rnB hd)
/-- the bits ahead of a dynamic block's tokens -/
def planB (t : List Tok) : List Int := ofN (((litN t - 257 : Nat) : Int)) 5 ++ ofN (((dstN t - 1 : Nat) : Int)) 5 ++ ofN (((plN t - 4 : Nat) : Int)) 4 ++ ordB (plHead t) (plN t) ++ rnsB (plHead t) (plRuns t)
theorem ordB_next (hd : List Int) {k : Nat} (h : k < 19) : ordB hd (k + 1) = ordB hd k ++ ofN (ix hd (ix ordQ k).toNat) 3 := by
  have hl : k < ordQ.length := h
  unfold ordB
  rw [List.take_succ_eq_append_getElem hl, List.flatMap_append]
  have e : ix ordQ k = ordQ[k] := by simp [ix, hl]
  rw [e]; simp
theorem ordB_len (hd : List Int) : ∀ k, k ≤ 19 → (ordB hd k).length = 3 * k
  | 0, _ => rfl
  | k + 1, h => by rw [ordB_next hd (by omega), List.length_append, ordB_len hd k (by omega), ofN_length]; omega
theorem rnsB_take (hd : List Int) {rs : List Rn} {k : Nat} (h : k < rs.length) : rnsB hd (rs.take (k + 1)) = rnsB hd (rs.take k) ++ rnB hd (rnAt rs k) := by rw [rn_take h]; simp [rnsB]
theorem rnsB_le {hd : List Int} (hh : ∀ i, i < hd.length → 0 ≤ ix hd i ∧ ix hd i ≤ 15) : ∀ rs : List Rn, (∀ r ∈ rs, RnOk r) → (rnsB hd rs).length ≤ 22 * rs.length
  | [], _ => by simp [rnsB]
  | r :: rs, h => by
    have h1 := rnsB_le hh rs fun x hx => h x (List.mem_cons_of_mem _ hx)
    have h2 := h r List.mem_cons_self
    have h3 := sym_le hh r.c.toNat
    have h4 := h2.2.2.1
    show (rnB hd r ++ rnsB hd rs).length ≤ _
    unfold rnB
    rw [List.length_append, List.length_append, ofN_length, List.length_cons]
    omega
set_option maxRecDepth 100000 in
set_option maxHeartbeats 8000000 in
theorem pwrite_any (w : World) (b0 g n c : Nat) (A : Option Addr) (L : List Int) (hw : Wtr w b0 g A n c L) (G b1 B : Nat) (t : List Tok) (Al Ad Ah Ax : Option Addr) (cl cd ch cr : Nat) (hp : PlB w G b1 B t Al Ad Ah Ax cl cd ch cr) (ht : t.length < 1048576) (hB : B ≤ w.heap.size)
    (hft : ∀ k, foot A g k → k < b1) (hlen : L.length ≤ 3000000000000) :
    Calls Try.prog 38 #[.pointer (some ⟨G, 0, none⟩), .pointer (some ⟨g, 0, none⟩)] w fun e w' => e = .returned (.tuple #[]) ∧ BkS w w' b0 g A (L ++ planB t) := by
  have hbl := litN_bd t
  have hbd := dstN_bd t
  have hbn := plN_bd t
  obtain ⟨V0, hV0⟩ : ∃ v, litN t - 257 = v := ⟨_, rfl⟩
  obtain ⟨V1, hV1⟩ : ∃ v, dstN t - 1 = v := ⟨_, rfl⟩
  obtain ⟨V2, hV2⟩ : ∃ v, plN t - 4 = v := ⟨_, rfl⟩
  have hI : ((litN t : Nat) : Int) - 257 = (V0 : Int) ∧ ((dstN t : Nat) : Int) - 1 = (V1 : Int) ∧ ((plN t : Nat) : Int) - 4 = (V2 : Int) := by omega
  have hVb : V0 ≤ 29 ∧ V1 ≤ 29 ∧ V2 ≤ 15 := by omega
  have HP := Lib.hid (⟨hp, hw, hft, hlen, ht⟩ : _ ∧ _ ∧ _ ∧ _ ∧ _)
  have HPC : Hid (∀ W, Chg w W (foot A g) → PlB W G b1 B t Al Ad Ah Ax cl cd ch cr) := fun W hc => hp.chg hc hB fun k hk => .inl (hft k hk)
  have hplan : Hid (planB t = ofN (V0 : Int) 5 ++ ofN (V1 : Int) 5 ++ ofN (V2 : Int) 4 ++ ordB (plHead t) (plN t) ++ rnsB (plHead t) (plRuns t)) := by show _ = _; rw [← hV0, ← hV1, ← hV2]; rfl
  obtain ⟨k0, k1, k2, k3, k4⟩ := hp.cells
  have HS0 := Lib.hid (BkS.start hw (Below.refl _ w))
  obtain ⟨nl, hnl⟩ : ∃ n, litN t = n := ⟨_, rfl⟩
  obtain ⟨nd, hnd⟩ : ∃ n, dstN t = n := ⟨_, rfl⟩
  obtain ⟨nh, hnh⟩ : ∃ n, plN t = n := ⟨_, rfl⟩
  obtain ⟨nr, hnr⟩ : ∃ n, (plRuns t).length = n := ⟨_, rfl⟩
  rw [hnl, hnd, hnh] at hI
  rw [hnl] at k0
  have hNI : (257 : Int) ≤ (nl : Int) ∧ (nl : Int) ≤ 286 ∧ (1 : Int) ≤ (nd : Int) ∧ (nd : Int) ≤ 30 ∧ (4 : Int) ≤ (nh : Int) ∧ (nh : Int) ≤ 19 := by omega
  obtain ⟨hI0, hI1, hI2⟩ := hI
  have HE := Lib.hid (⟨hnl, hnd, hnh, hnr, hVb, hB⟩ : _ ∧ _ ∧ _ ∧ _ ∧ _ ∧ _)
  have HP1 := Lib.hid (HS0.out.put (V0 : Int) 5 (by omega) (by omega) (by omega))
  clear hp hw hft hbl hbd hbn hV0 hV1 hV2 hVb k1 k2 k3 k4 hnl hnd hnh hnr hlen ht hB
  go_enter Try.func38, Try.ntmps38
  go_wp2_with fail
  refine HP1.out.mono ?_
  rintro e w1 ⟨rfl, h1⟩
  have k1 := (HPC.out _ h1.chg).cells.2.1
  rw [HE.out.2.1] at k1
  have HP2 := Lib.hid (h1.put (V1 : Int) 5 (by have := HE.out.2.2.2.2.1; omega) (by omega) (by rw [List.length_append, ofN_length]; have := HP.out.2.2.2.1; omega))
  clear h1 k0
  go_wp2_with fail
  refine HP2.out.mono ?_
  rintro e w2 ⟨rfl, h2⟩
  have k4 := (HPC.out _ h2.chg).cells.2.2.2.2
  rw [HE.out.2.2.1] at k4
  have HP3 := Lib.hid (h2.put (V2 : Int) 4 (by have := HE.out.2.2.2.2.1; omega) (by omega) (by rw [List.length_append, List.length_append, ofN_length, ofN_length]; have := HP.out.2.2.2.1; omega))
  clear h2 k1
  go_wp2_with fail
  refine HP3.out.mono ?_
  rintro e w3 ⟨rfl, h3⟩
  obtain ⟨L1, hL1⟩ : ∃ l, L ++ ofN (V0 : Int) 5 ++ ofN (V1 : Int) 5 ++ ofN (V2 : Int) 4 = l := ⟨_, rfl⟩
  rw [hL1] at h3
  have HL1 : Hid (L1.length ≤ 3000000000014) := by
    show _ ≤ _
    rw [← hL1]
    simp only [List.length_append, ofN_length]
    have := HP.out.2.2.2.1; omega
  have HPLAN : Hid (L ++ planB t = L1 ++ ordB (plHead t) nh ++ rnsB (plHead t) (plRuns t)) := by
    show _ = _
    rw [hplan.out, ← hL1, HE.out.2.2.1]
    simp only [List.append_assoc]
  have HOR := Lib.hid (order_any w3)
  have HT3 : Hid (BkT w ((w3.alloc (.cells ordC 86)).alloc (.cells ordC 86)) ((w3.alloc (.cells ordC 86)).alloc (.cells ordC 86)) (w3.heap.size + 1) b0 g A L1) := by
    have h9 := BkT.new (h3.alloc (.cells ordC 86)) (.cells ordC 86)
    have e9 : (w3.alloc (.cells ordC 86)).heap.size = w3.heap.size + 1 := by simp
    rw [e9] at h9
    exact h9
  have HSZ : Hid (w3.heap.size + 1 = (w3.alloc (.cells ordC 86)).heap.size) := by show _ = _; simp
  have HOM : Hid (OrdM ((w3.alloc (.cells ordC 86)).alloc (.cells ordC 86)) (w3.heap.size + 1)) := by
    have h9 := OrdM.new (w3.alloc (.cells ordC 86))
    rw [← HSZ.out] at h9
    exact h9
  have k44 := (HPC.out _ HT3.out.chg).cells.2.2.2.2
  rw [HE.out.2.2.1] at k44
  clear hL1 h3 k4 hplan HS0
  go_wp2_with fail
  refine HOR.out.mono ?_
  rintro e w4 ⟨rfl, rfl⟩
  go_wp2_with (refine wpList_ord rfl (.tmp 4) (.tmp 37) rfl rfl (w3.heap.size + 1) HSZ.out rfl rfl _ rfl ?_)
  clear k44
  obtain ⟨go, hgo⟩ : ∃ g, w3.heap.size + 1 = g := ⟨_, rfl⟩
  obtain ⟨wk, hwk⟩ : ∃ W, (w3.alloc (.cells ordC 86)).alloc (.cells ordC 86) = W := ⟨_, rfl⟩
  rw [hwk, hgo] at HT3 HOM
  rw [hwk, hgo]
  clear hwk hgo HSZ HOR
  clear w3
  obtain ⟨hd, hhd⟩ : ∃ h, plHead t = h := ⟨_, rfl⟩
  have hhi : Hid (∀ i, i < 19 → 0 ≤ ix hd i ∧ ix hd i ≤ 7) := fun i hi => by rw [← hhd]; exact head_in t i hi
  have HHD := Lib.hid hhd
  rw [hhd] at HPLAN
  clear hhd
  go_loopg [44] nh (fun (gk : Nat) (v44 : Value) wx => ∃ k : Nat, v44 = .int .i64 k ∧ k ≤ nh ∧ Hid (BkT w wk wx go b0 g A (L1 ++ ordB hd k)) ∧ Hid (gk = nh - k))
  case atStart => exact ⟨0, rfl, Nat.zero_le _, by show BkT _ _ _ _ _ _ _ (L1 ++ []); rw [List.append_nil]; exact HT3.out, rfl⟩
  case round =>
    clear HT3
    obtain ⟨k, rfl, hk, hs, hg⟩ := hrel
    by_cases hlt : k < nh
    · have hkI : (k : Int) < (nh : Int) ∧ (0 : Int) ≤ (k : Int) := by omega
      have hk19 : k < 19 := by omega
      have hor : OrdM wr go := hs.out.kp.trans HOM.out
      have hob := ordQ_bd k hk19
      obtain ⟨K, hK⟩ := Int.eq_ofNat_of_zero_le hob.1
      have c1 := hor.cell hk19
      have hK18 : K < 19 := by omega
      have hpw := HPC.out _ hs.out.chg
      have c2 := hpw.cells.2.2.1
      obtain ⟨ah, hAh, hbh, c3⟩ := hpw.head.at_ hK18
      rw [HHD.out] at c3
      have hXb := hhi.out K hK18
      have hnx := ordB_next hd hk19
      rw [hK, Int.toNat_natCast] at hnx
      rw [hK] at c1
      obtain ⟨X, hX⟩ : ∃ X, ix hd K = X := ⟨_, rfl⟩
      rw [hX] at c3 hXb hnx
      have HPT := Lib.hid (hs.out.put X 3 (by omega) (by omega) (by rw [List.length_append, ordB_len hd k (by omega)]; have := HL1.out; omega))
      have HNX := Lib.hid hnx
      have HLT := Lib.hid hlt
      have hKI : (0 : Int) ≤ (K : Int) ∧ (K : Int) < 19 := by omega
      subst hAh
      clear hor hob hK hbh hnx hX hpw hs hlt
      go_wp2_with fail
      refine HPT.out.mono ?_
      rintro e w5 ⟨rfl, h5⟩
      have H5 := Lib.hid h5
      clear h5 c1 c2 c3
      go_wp2_with fail
      go_roundg (nh - (k + 1))
      case measure => have := hg.out; have := HLT.out; omega
      case rel => exact ⟨k + 1, by go_num, HLT.out, by have h6 := H5.out; rw [List.append_assoc, ← HNX.out] at h6; exact h6, rfl⟩
    · obtain rfl : k = nh := by omega
      have hkI : ¬ (k : Int) < (k : Int) := by omega
      have hs9 := hs.out.old
      have hpw := HPC.out _ hs9.chg
      have hBr : B ≤ wr.heap.size := Nat.le_trans HE.out.2.2.2.2.2 hs9.chg.size
      have c2 := hpw.cells.2.2.1
      have hhr := hpw.head
      rw [HHD.out] at hhr
      have hck := plHead_check t
      rw [HHD.out] at hck
      have HBD := Lib.hid (build_ok wr Ah 19 ch B hd 7 hhr hBr (by omega) hck)
      have HS9 := Lib.hid hs9
      obtain ⟨L2, hL2⟩ : ∃ l, L1 ++ ordB hd k = l := ⟨_, rfl⟩
      have HL2 : Hid (L2.length ≤ 3000000000080 ∧ L1 ++ ordB hd k = L2) := ⟨by rw [← hL2, List.length_append, ordB_len hd k (by have := HP.out; omega)]; have := HL1.out; omega, hL2⟩
      rw [hL2] at HS9 HPLAN
      have hin15 : Hid (∀ i, i < hd.length → 0 ≤ ix hd i ∧ ix hd i ≤ 15) := fun i hi => by have := chk_in hck i hi; omega
      have hlen19 : Hid (hd.length = 19) := by show _ = _; rw [← HHD.out]; exact plHead_len t
      clear hs hs9 hpw hhr hck hL2 hlt hg HOM
      go_wp2_with fail
      refine HBD.out.mono ?_
      rintro e w5 ⟨gt, rfl, hTb, hb5⟩
      obtain ⟨⟨A1, n1, c1, hw1, hA1⟩, hc1⟩ := HS9.out
      have hpl5 : PlB w5 G b1 B t Al Ad Ah Ax cl cd ch cr := HPC.out _ (hc1.trans (S' := fun _ => False) (Chg.of_below hb5) fun k hk => hk.elim)
      have hB5 : B ≤ w5.heap.size := Nat.le_trans HE.out.2.2.2.2.2 (Nat.le_trans hc1.size hb5.size)
      have HPC5 : Hid (∀ W, Chg w5 W (foot A1 g) → PlB W G b1 B t Al Ad Ah Ax cl cd ch cr) := fun W hc => hpl5.chg hc hB5 fun k hk => by
        rcases hk with hk | hk
        · exact .inl (HP.out.2.2.1 k (.inl hk))
        · rcases hA1 k hk with h | h
          · exact .inl (HP.out.2.2.1 k (.inr h))
          · exact .inr (Nat.le_trans HE.out.2.2.2.2.2 h)
      have HTB : Hid (Tab w5 wr.heap.size w5.heap.size gt hd ∧ ∀ k, wr.heap.size ≤ k → k < w5.heap.size → ¬ foot A1 g k) := ⟨hTb, fun k h1 _ hk => by have := (hw1.foot_lo hk).2; omega⟩
      have HS5 := Lib.hid (show BkS w5 w5 b0 g A1 L2 from ⟨⟨A1, n1, c1, hw1.keeps hb5, fun k hk => .inl hk⟩, Chg.refl _ _⟩)
      have HC5 : Hid (Chg w w5 (foot A g) ∧ ∀ k, blkOf A1 = some k → blkOf A = some k ∨ w.heap.size ≤ k) := ⟨hc1.trans (S' := fun _ => False) (Chg.of_below hb5) fun k hk => hk.elim, hA1⟩
      have k3 := hpl5.cells.2.2.2.1
      rw [HE.out.2.2.2.1] at k3
      obtain ⟨rs, hrs⟩ : ∃ r, plRuns t = r := ⟨_, rfl⟩
      have hrl := plRuns_len t
      have hok := plRuns_ok HP.out.2.2.2.2
      rw [hrs] at hrl hok HPLAN
      have hnr : rs.length = nr := by rw [← hrs]; exact HE.out.2.2.2.1
      have HRS := Lib.hid (⟨hrs, hnr, hok, hrl⟩ : _ ∧ _ ∧ _ ∧ _)
      have hnrI : (0 : Int) ≤ (nr : Int) ∧ (nr : Int) ≤ 316 := by omega
      clear hTb hb5 hw1 hA1 hc1 hpl5 hB5 hrs hnr hok hrl c2 HBD HS9 HPC
      go_wp2_with fail
      clear k3
      go_loopg [72] nr (fun (gk : Nat) (v72 : Value) wx => ∃ k : Nat, v72 = .int .i64 k ∧ k ≤ nr ∧ Hid (BkS w5 wx b0 g A1 (L2 ++ rnsB hd (rs.take k))) ∧ Hid (gk = nr - k))
      case atStart => exact ⟨0, rfl, Nat.zero_le _, by show BkS _ _ _ _ _ (L2 ++ []); rw [List.append_nil]; exact HS5.out, rfl⟩
      case round =>
        clear HS5
        rename World => wz
        obtain ⟨k, rfl, hk, hs, hg⟩ := hrel
        by_cases hlt : k < nr
        · have hkI : (k : Int) < (nr : Int) ∧ (0 : Int) ≤ (k : Int) := by omega
          have hkl : k < rs.length := by rw [HRS.out.2.1]; exact hlt
          have hrr := (HPC5.out _ hs.out.chg).runs
          rw [HRS.out.1, HRS.out.2.1] at hrr
          obtain ⟨ad, hA, hbl, a0, a1, a2⟩ := hrr.at3 hlt
          have hok := HRS.out.2.2.1 _ (rnAt_mem hkl)
          have htk := rnsB_take hd hkl
          have hle := rnsB_le hin15.out (rs.take k) fun r hr => HRS.out.2.2.1 r (List.mem_of_mem_take hr)
          have hle3 : (rs.take k).length ≤ k := by rw [List.length_take]; exact Nat.min_le_left _ _
          obtain ⟨⟨C, V, E⟩, hr⟩ : ∃ r, rnAt rs k = r := ⟨_, rfl⟩
          rw [hr] at a0 a1 a2 hok htk
          have hc0 : 0 ≤ C ∧ C ≤ 18 := hok.1
          have hv0 : 0 ≤ V ∧ V < 128 := hok.2.1
          have he0 : 0 ≤ E ∧ E ≤ 7 := hok.2.2.1
          obtain ⟨c, rfl⟩ := Int.eq_ofNat_of_zero_le hc0.1
          obtain ⟨ee, rfl⟩ := Int.eq_ofNat_of_zero_le he0.1
          replace a0 : wz.cell? (ad.add (k * 3)) = some (.int .i64 (c : Int)) := a0
          replace a1 : wz.cell? { block := (ad.add (k * 3)).block, off := (ad.add (k * 3)).off + 1 } = some (.int .i64 V) := a1
          replace a2 : wz.cell? { block := (ad.add (k * 3)).block, off := (ad.add (k * 3)).off + 2 } = some (.int .i64 (ee : Int)) := a2
          have hrb : rnB hd ⟨(c : Int), V, (ee : Int)⟩ = symBits hd c ++ ofN V ee := rfl
          rw [hrb] at htk
          have hT0 := BkT.new hs.out (.cells #[.int .i64 (c : Int), .int .i64 V, .int .i64 (ee : Int)] 85)
          have hbx := rnf_new wz ⟨(c : Int), V, (ee : Int)⟩ 85
          have hlen : (L2 ++ rnsB hd (rs.take k)).length ≤ 3000000010000 := by rw [List.length_append]; have := HL2.out.1; have := HRS.out.2.2.2; have := HRS.out.2.1; omega
          have hsym := sym_le hin15.out c
          have HY := Lib.hid (hT0.sym HTB.out.1 (Nat.le_refl _) HTB.out.2 c (by rw [hlen19.out]; omega) hin15.out (by omega))
          have HNX := Lib.hid htk
          have HLEN := Lib.hid (⟨hlen, hsym⟩ : _ ∧ _)
          have HBX := Lib.hid hbx
          have HLT := Lib.hid hlt
          have hvI : (0 : Int) ≤ (c : Int) ∧ (c : Int) ≤ 18 ∧ 0 ≤ V ∧ V < 128 ∧ (0 : Int) ≤ (ee : Int) ∧ (ee : Int) ≤ 7 := by omega
          subst hA
          clear hkl hrr hbl hok htk hle hle3 hr hc0 hv0 he0 hrb hT0 hbx hlen hsym hs hlt
          go_wp2_with fail
          refine HY.out.mono ?_
          rintro e w6 ⟨⟨b6, rfl⟩, h6⟩
          have d1 : w6.cell? ⟨wz.heap.size, 1, none⟩ = some (.int .i64 V) := h6.cell HBX.out (i := 1) (by omega)
          have d2 : w6.cell? ⟨wz.heap.size, 2, none⟩ = some (.int .i64 (ee : Int)) := h6.cell HBX.out (i := 2) (by omega)
          have HPT := Lib.hid (h6.put V ee (by omega) (by omega) (by rw [List.length_append]; have := HLEN.out; omega))
          clear h6 a0 a1 a2
          go_wp2_with fail
          refine HPT.out.mono ?_
          rintro e w7 ⟨rfl, h7⟩
          have H7 := Lib.hid (show BkS w5 w7 b0 g A1 (L2 ++ rnsB hd (rs.take (k + 1))) from by
            have h8 := h7.old
            rw [HNX.out]
            simpa [List.append_assoc] using h8)
          clear h7 d1 d2
          go_wp2_with fail
          go_roundg (nr - (k + 1))
          case measure => have := hg.out; have := HLT.out; omega
          case rel => exact ⟨k + 1, by go_num, HLT.out, H7.out, rfl⟩
        · obtain rfl : k = nr := by omega
          have hkI : ¬ (k : Int) < (k : Int) := by omega
          have htk : rs.take k = rs := List.take_of_length_le (by rw [HRS.out.2.1]; exact Nat.le_refl _)
          have hfin : Hid (BkS w wz b0 g A (L ++ planB t)) := by
            have h9 := hs.out
            rw [htk] at h9
            obtain ⟨⟨A2, n2, c2, q1, q2⟩, q3⟩ := h9
            have h10 := BkS.next HC5.out.1 HC5.out.2 q1 q3 q2
            rw [← HPLAN.out] at h10
            exact h10
          clear hlt htk hs
          go_wp2_with fail
          go_end0
          exact ⟨rfl, hfin.out⟩
end Go.Proofs.Ytckhkkjdibcclaa

/-
  Plain law: the machine over a dynamic block's head.
-/
namespace Go.Proofs.Ytckhkkjdibcclaa
open Go.RowKit
set_option linter.unusedVariables false
/-- what stays while a block's head is read -/
structure HdS (t t' : IS) : Prop where
  last : t'.last = t.last
  all : t'.all = t.all
  rem : t'.rem = t.rem
  kinds : t'.kinds = t.kinds
  stops : t'.stops = t.stops
  toks : t'.toks = t.toks
theorem HdS.rfl' (t : IS) : HdS t t := ⟨rfl, rfl, rfl, rfl, rfl, rfl⟩
theorem HdS.trans {a b c : IS} (h : HdS a b) (h' : HdS b c) : HdS a c := ⟨h'.1.trans h.1, h'.2.trans h.2, h'.3.trans h.3, h'.4.trans h.4, h'.5.trans h.5, h'.6.trans h.6⟩
section
variable {t : IS} {y hd : List Int}
theorem numP14 {a b c : Nat} (ha : a < 32) (hb : b < 32) (hc : c < 16) (z : List Int) : num (ofN (a : Int) 5 ++ (ofN (b : Int) 5 ++ (ofN (c : Int) 4 ++ z))) 14 = a + 32 * (b + 32 * c) := by
  have e : ofN (a : Int) 5 ++ (ofN (b : Int) 5 ++ (ofN (c : Int) 4 ++ z)) = (ofN (a : Int) 5 ++ (ofN (b : Int) 5 ++ ofN (c : Int) 4)) ++ z := by simp only [List.append_assoc]
  rw [e, num_is (by simp only [List.length_append, ofN_length]), numI_append, numI_append, ofN_length, ofN_length, numI_ofN, numI_ofN, numI_ofN]
  have e5 : (2 : Int) ^ 5 = 32 := by decide
  have e4 : (2 : Int) ^ 4 = 16 := by decide
  rw [e5, e4]
  omega
theorem sizes_step {a b c : Nat} (hst : t.st = 3) (hx : t.x = ofN (a : Int) 5 ++ (ofN (b : Int) 5 ++ (ofN (c : Int) 4 ++ y))) (ha : a ≤ 29) (hb : b ≤ 29) (hc : c < 16) :
    t.step = ({ t with x := y, c0 := a + 257, c1 := b + 1, c2 := c + 4, lens := [], st := 4 }, 0) := by
  unfold IS.step
  rw [if_neg (by omega), if_neg (by omega), if_neg (by omega), if_pos hst]
  unfold IS.sizes
  have hn := numP14 (show a < 32 by omega) (show b < 32 by omega) hc y
  have hd : (ofN (a : Int) 5 ++ (ofN (b : Int) 5 ++ (ofN (c : Int) 4 ++ y))).drop 14 = y := by
    have e : ofN (a : Int) 5 ++ (ofN (b : Int) 5 ++ (ofN (c : Int) 4 ++ y)) = (ofN (a : Int) 5 ++ (ofN (b : Int) 5 ++ ofN (c : Int) 4)) ++ y := by simp only [List.append_assoc]
    rw [e, drop_len (by simp only [List.length_append, ofN_length])]
  rw [hx, hn, hd, if_neg (by simp only [List.length_append, ofN_length]; omega), if_neg (by omega), show (a + 32 * (b + 32 * c)) % 32 = a by omega, show (a + 32 * (b + 32 * c)) / 32 % 32 = b by omega, show (a + 32 * (b + 32 * c)) / 1024 = c by omega]
/-- the third code's lengths, in the order in which they stand -/
def ordL (hd : List Int) (k : Nat) : List Int := (ordQ.take k).map fun o => ix hd o.toNat
theorem ordL_len (hd : List Int) {k : Nat} (h : k ≤ 19) : (ordL hd k).length = k := by
  unfold ordL
  rw [List.length_map, List.length_take]
  show min k 19 = k
  omega
theorem ordL_next (hd : List Int) {k : Nat} (h : k < 19) : ordL hd (k + 1) = ordL hd k ++ [ix hd (ix ordQ k).toNat] := by
  have hl : k < ordQ.length := h
  unfold ordL
  rw [List.take_succ_eq_append_getElem hl, List.map_append]
  have e : ix ordQ k = ordQ[k] := by simp [ix, hl]
  rw [e]; rfl
theorem ordB_split (hd : List Int) {k n : Nat} (hk : k < n) (hn : n ≤ 19) : (ordQ.take n).drop k = ix ordQ k :: (ordQ.take n).drop (k + 1) := by
  have hl : k < (ordQ.take n).length := by rw [List.length_take]; show k < min n 19; omega
  rw [List.drop_eq_getElem_cons hl]
  congr 1
  have : k < ordQ.length := by show k < 19; omega
  simp [ix, this]
/-- the bits of those from place k on -/
def ordF (hd : List Int) (k n : Nat) : List Int := ((ordQ.take n).drop k).flatMap fun (o : Int) => ofN (ix hd o.toNat) 3
theorem ordF_zero (hd : List Int) (n : Nat) : ordF hd 0 n = ordB hd n := rfl
theorem ordF_next (hd : List Int) {k n : Nat} (hk : k < n) (hn : n ≤ 19) : ordF hd k n = ofN (ix hd (ix ordQ k).toNat) 3 ++ ordF hd (k + 1) n := by
  unfold ordF
  rw [ordB_split hd hk hn]; rfl
theorem ordF_end (hd : List Int) (n : Nat) (hn : n ≤ 19) : ordF hd n n = [] := by
  unfold ordF
  rw [List.drop_of_length_le (by rw [List.length_take]; show min n 19 ≤ n; omega)]; rfl
theorem heads_steps {n : Nat} (hn : n ≤ 19) (hin : ∀ i, i < 19 → 0 ≤ ix hd i ∧ ix hd i ≤ 7) : ∀ (j k : Nat) (t : IS), j = n - k → k ≤ n → t.st = 4 → t.c2 = n → t.lens = ordL hd k → t.x = ordF hd k n ++ y →
    ∃ t', IS.Steps t t' ∧ HdS t t' ∧ t'.st = 4 ∧ t'.c2 = n ∧ t'.lens = ordL hd n ∧ t'.x = y ∧ t'.c0 = t.c0 ∧ t'.c1 = t.c1
  | 0, k, t, hj, hk, hst, hc, hl, hx => by
    obtain rfl : k = n := by omega
    rw [ordF_end hd k hn, List.nil_append] at hx
    exact ⟨t, .refl t, HdS.rfl' t, hst, hc, hl, hx, rfl, rfl⟩
  | j + 1, k, t, hj, hk, hst, hc, hl, hx => by
    have hkn : k < n := by omega
    rw [ordF_next hd hkn hn, List.append_assoc] at hx
    have hob := ordQ_bd k (by omega)
    have hb := hin (ix ordQ k).toNat (by omega)
    obtain ⟨v, hv⟩ := Int.eq_ofNat_of_zero_le hb.1
    have hnum : num t.x 3 = v := by
      rw [hx, num_is (ofN_length _ _), numI_ofN, hv]
      have e3 : (2 : Int) ^ 3 = 8 := by decide
      rw [e3]; omega
    have e : t.step = ({ t with x := ordF hd (k + 1) n ++ y, lens := ordL hd (k + 1) }, 0) := by
      unfold IS.step
      rw [if_neg (by omega), if_neg (by omega), if_neg (by omega), if_neg (by omega), if_pos hst]
      unfold IS.heads
      rw [hl, ordL_len hd (by omega), hc, if_pos hkn, if_neg (by rw [hx, List.length_append, ofN_length]; omega), hnum, hx, drop_len (ofN_length _ _), ordL_next hd (by omega), hv]
    have s1 := IS.Steps.one (s := t) (by rw [e])
    rw [e] at s1
    obtain ⟨t', s2, h2, r⟩ := heads_steps hn hin j (k + 1) { t with x := ordF hd (k + 1) n ++ y, lens := ordL hd (k + 1) } (by omega) (by omega) hst hc rfl rfl
    exact ⟨t', s1.trans s2, (show HdS t { t with x := ordF hd (k + 1) n ++ y, lens := ordL hd (k + 1) } from ⟨rfl, rfl, rfl, rfl, rfl, rfl⟩).trans h2, r⟩
theorem hOrd_ix : ∀ s, s < 19 → hOrd.idxOf s < 19 ∧ (ix ordQ (hOrd.idxOf s)).toNat = s := by decide +kernel
/-- the lengths come into their places -/
theorem hAll_ord {n : Nat} (hn : n ≤ 19) (hlen : hd.length = 19) (hz : ∀ i, n ≤ i → i < 19 → ix hd (ix ordQ i).toNat = 0) : hAll (ordL hd n) = hd := by
  refine pln_ext (by unfold hAll; rw [List.length_map, List.length_range, hlen]) fun s hs => ?_
  have hs19 : s < 19 := by unfold hAll at hs; rw [List.length_map, List.length_range] at hs; exact hs
  unfold hAll
  rw [ix_map _ hs19]
  obtain ⟨o1, o2⟩ := hOrd_ix s hs19
  by_cases h : hOrd.idxOf s < n
  · have e1 : ∀ (L : List Int) (g : Int → Int) (i : Nat), i < L.length → ix (L.map g) i = g (ix L i) := fun L g i hi => by simp [ix, hi]
    unfold ordL
    rw [e1 _ _ _ (by rw [List.length_take]; show _ < min n 19; omega), ix_takeB h, o2]
  · have e : ix (ordL hd n) (hOrd.idxOf s) = 0 := by
      unfold ix
      rw [List.getD_eq_getElem?_getD, List.getElem?_eq_none (by rw [ordL_len hd hn]; omega)]; rfl
    rw [e, ← hz _ (by omega) o1, o2]
theorem heads_end (hst : t.st = 4) (hc : t.lens.length = t.c2) (hA : hAll t.lens = hd) (hck : checkOf hd 7 = 0) (hnn : noneB t.lens = false) : t.step = ({ t with hd := hd, lens := [], st := 5 }, 0) := by
  unfold IS.step
  rw [if_neg (by omega), if_neg (by omega), if_neg (by omega), if_neg (by omega), if_pos hst]
  unfold IS.heads
  rw [if_neg (by omega), hA, if_neg (by rw [hck, hnn]; simp)]
/-- one run -/
theorem run_step {r : Rn} {acc : List Int} (hst : t.st = 5) (hhd : t.hd = hd) (hck : checkOf hd 7 = 0) (hacc : t.lens = acc) (hx : t.x = rnB hd r ++ y) (hok : RnOk r) (h16 : r.c = 16 → 0 < acc.length) (hs1 : 1 ≤ ix hd r.c.toNat) (hlt : acc.length < t.c0 + t.c1) (hle : (decR acc r).length ≤ t.c0 + t.c1) :
    t.step = ({ t with x := y, lens := decR acc r }, 0) := by
  obtain ⟨C, V, E⟩ := r
  obtain ⟨o1, o2, o3, o4, o5, o6, o7, o8⟩ := hok
  dsimp only at o1 o2 o3 o4 o5 o6 o7 o8 h16 hs1
  obtain ⟨c, rfl⟩ := Int.eq_ofNat_of_zero_le o1.1
  obtain ⟨v, rfl⟩ := Int.eq_ofNat_of_zero_le o2.1
  rw [Int.toNat_natCast] at hs1
  have hx' : t.x = symBits hd c ++ (ofN (v : Int) E.toNat ++ y) := by rw [hx]; unfold rnB; rw [List.append_assoc]; rfl
  obtain ⟨n1, n2⟩ := next_bits7 hck hs1 (ofN (v : Int) E.toNat ++ y)
  unfold IS.step
  rw [if_neg (by omega), if_neg (by omega), if_neg (by omega), if_neg (by omega), if_neg (by omega), if_pos hst]
  unfold IS.lengths
  rw [hacc, if_pos hlt]
  unfold IS.length
  rw [hhd, hx', n1]
  simp only
  rw [if_neg (by decide), n2]
  by_cases hc16 : (c : Int) < 16
  · obtain ⟨rfl, rfl⟩ : v = 0 ∧ E = 0 := by obtain ⟨a, b⟩ := o5 (by omega); exact ⟨by omega, b⟩
    rw [if_pos hc16, hacc]
    unfold decR
    rw [if_pos hc16]
    rfl
  · have hw : IS.rW (c : Int) = E.toNat := by
      unfold IS.rW
      obtain h | h | h : (c : Int) = 16 ∨ (c : Int) = 17 ∨ (c : Int) = 18 := by omega
      · rw [if_neg (by omega), if_neg (by omega), o6 h]; rfl
      · rw [if_pos h, o7 h]; rfl
      · rw [if_neg (by omega), if_pos h, o8 h]; rfl
    have hnv : num (ofN (v : Int) E.toNat ++ y) E.toNat = v := by
      rw [num_is (ofN_length _ _), numI_ofN, Int.emod_eq_of_lt (by omega) o4]; rfl
    have hdec : decR acc ⟨(c : Int), (v : Int), E⟩ = acc ++ List.replicate (IS.rB (c : Int) + v) (if (c : Int) = 16 then ix acc (acc.length - 1) else 0) := by
      unfold decR
      rw [if_neg hc16]
      simp only [Int.toNat_natCast]
    rw [hdec] at hle ⊢
    rw [List.length_append, List.length_replicate] at hle
    rw [if_neg hc16, hacc, if_neg (by rintro ⟨h1, h2⟩; have := h16 h1; omega), hw, if_neg (by rw [List.length_append, ofN_length]; omega)]
    unfold IS.repeat_
    rw [hw, hnv, hacc, if_neg (by omega), drop_len (ofN_length _ _), hhd]
theorem decR_lt (acc : List Int) {r : Rn} (h : RnOk r) : acc.length < (decR acc r).length := by
  unfold decR
  split
  · simp
  · rw [List.length_append, List.length_replicate]
    unfold IS.rB
    split <;> omega
theorem fold_le (rs : List Rn) : ∀ acc : List Int, okR acc rs → acc.length ≤ (rs.foldl decR acc).length := by
  induction rs with
  | nil => intro acc _; exact Nat.le_refl _
  | cons r rs ih =>
    intro acc h
    have := ih (decR acc r) h.2.2
    have := decR_lt acc h.1
    rw [List.foldl_cons]; omega
theorem runs_steps (hck : checkOf hd 7 = 0) : ∀ (rs : List Rn) (t : IS) (acc : List Int), t.st = 5 → t.hd = hd → t.lens = acc → t.x = rnsB hd rs ++ y → okR acc rs → (∀ r ∈ rs, 1 ≤ ix hd r.c.toNat) → (rs.foldl decR acc).length = t.c0 + t.c1 →
    ∃ t', IS.Steps t t' ∧ HdS t t' ∧ t'.st = 5 ∧ t'.lens = rs.foldl decR acc ∧ t'.x = y ∧ t'.c0 = t.c0 ∧ t'.c1 = t.c1
  | [], t, acc, hst, hhd, hacc, hx, _, _, _ => ⟨t, .refl t, HdS.rfl' t, hst, hacc, by rw [hx]; rfl, rfl, rfl⟩
  | r :: rs, t, acc, hst, hhd, hacc, hx, hok, hs, hlen => by
    obtain ⟨k1, k2, k3⟩ := hok
    have hx' : t.x = rnB hd r ++ (rnsB hd rs ++ y) := by
      rw [hx]
      show (rnB hd r ++ rnsB hd rs) ++ y = _
      rw [List.append_assoc]
    rw [List.foldl_cons] at hlen
    have h1 := fold_le rs (decR acc r) k3
    have h2 := decR_lt acc k1
    have e := run_step hst hhd hck hacc hx' k1 k2 (hs r List.mem_cons_self) (by omega) (by omega)
    have s1 := IS.Steps.one (s := t) (by rw [e])
    rw [e] at s1
    obtain ⟨t', s2, q2, r'⟩ := runs_steps hck rs { t with x := rnsB hd rs ++ y, lens := decR acc r } (decR acc r) hst hhd rfl rfl k3 (fun r hr => hs r (List.mem_cons_of_mem _ hr)) hlen
    exact ⟨t', s1.trans s2, (show HdS t { t with x := rnsB hd rs ++ y, lens := decR acc r } from ⟨rfl, rfl, rfl, rfl, rfl, rfl⟩).trans q2, r'⟩
theorem plan_end {l d : List Int} (hst : t.st = 5) (hl : t.lens = l ++ d) (h0 : t.c0 = l.length) (h1 : t.c1 = d.length) (hcl : checkOf l 15 = 0) (hcd : checkOf d 15 = 0) (h256 : 1 ≤ ix l 256) : t.step = ({ t with lt := l, ds := d, st := 6 }, 0) := by
  unfold IS.step
  rw [if_neg (by omega), if_neg (by omega), if_neg (by omega), if_neg (by omega), if_neg (by omega), if_pos hst]
  unfold IS.lengths
  have e1 : (l ++ d).take l.length = l := List.take_left
  have e2 : (l ++ d).drop l.length = d := List.drop_left
  have e3 : ix (l ++ d) 256 = ix l 256 := by rw [ix_append, if_pos (sym_pos h256)]
  rw [hl, h0, h1, if_neg (by rw [List.length_append]; omega), e1, e2, e3, hcl, hcd, if_neg (by omega)]
end
end Go.Proofs.Ytckhkkjdibcclaa
