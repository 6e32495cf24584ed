/-
  Several texts in one (written by pack2.py): TRead, ICutP.
-/
import Derived.Test.YtckhkkjdibcclaaProg
import Derived.Test.YtckhkkjdibcclaaPk7
import Derived.Test.YtckhkkjdibcclaaPk9
import Derived.Deep.QuietTactic
import Derived.Test.YtckhkkjdibcclaaPk4
import Derived.Test.YtckhkkjdibcclaaPk11
import Derived.Test.YtckhkkjdibcclaaPk14
/-
  The walk of the reference's Read.
-/
namespace Go.Proofs.Ytckhkkjdibcclaa
open Go.RowKit
set_option linter.unusedVariables false

def ctV (l : List Int) (k v : Nat) : Value := .int .i64 (if v = 0 then 0 else cnt l k v : Nat)
theorem ctV_zero (l : List Int) (v : Nat) : Value.int .i64 0 = ctV l 0 v := by unfold ctV; congr 1; simp [cnt]
theorem ctV_at (l : List Int) (k : Nat) {v : Nat} (h : 1 ≤ v) : ctV l k v = .int .i64 (cnt l k v : Nat) := by unfold ctV; rw [if_neg (by omega)]
theorem ctV_hit (l : List Int) (k : Nat) {v : Nat} (h : 1 ≤ v) (e : ix l k = (v : Int)) (j : Nat) : upd (ctV l k) v (.int .i64 ((cnt l k v : Int) + 1)) j = ctV l (k + 1) j := by
  by_cases hj : j = v
  · subst hj; rw [upd_same, ctV_at _ _ h]; congr 1; simp [cnt, e]
  · rw [upd_other _ _ hj]; unfold ctV; congr 3
    have : ¬ ix l k = (j : Int) := by rw [e]; omega
    simp [cnt, this]
theorem ctV_miss (l : List Int) (k : Nat) (h : ix l k = 0) (j : Nat) : ctV l k j = ctV l (k + 1) j := by
  unfold ctV
  by_cases h1 : j = 0
  · rw [if_pos h1, if_pos h1]
  · rw [if_neg h1, if_neg h1]
    have : ¬ ix l k = (j : Int) := by omega
    simp [cnt, this]
def SymReadPost (w : World) (l x : List Int) (e : Ending) (w' : World) : Prop :=
  e = .returned (.tuple #[.int .i64 (nextOf l x).1, .int .i64 ((nextOf l x).2.1 : Nat), .int .i64 (nextOf l x).2.2]) ∧ Below w.heap.size w w'
def ReadA (w : World) (l : List Int) (n : Nat) (m i : Value) (wr : World) : Prop :=
  ∃ k : Nat, k ≤ n ∧ i = .int .i64 k ∧ m = .int .i64 (mxI l k) ∧ Ar wr w.heap.size 16 (ctV l k) ∧ Below w.heap.size w wr
def ReadB (w : World) (l x : List Int) (lg : Nat) (v f n _i : Value) (wr : World) : Prop :=
  ∃ k : Nat, 1 ≤ k ∧ k ≤ lg + 1 ∧ k ≤ x.length + 1 ∧ n = .int .i64 k ∧ v = .int .i64 (hv x (k - 1)) ∧ f = .int .i64 (preC l k : Nat) ∧ Hid (fh l x (k - 1) = 0) ∧ Ar wr w.heap.size 16 (ctV l l.length) ∧ Below w.heap.size w wr
def ReadC (wo : World) (s : Nat) (i : Value) (wr : World) : Prop := ∃ j q : Nat, j ≤ s ∧ i = .int .i64 j ∧ wr = wo.drewN q

set_option maxRecDepth 100000 in
set_option maxHeartbeats 4000000 in
theorem rread_any (w : World) (Al Ac Ab : Option Addr) (n cl cc nb cb at_ : Nat) (l bs : List Int) (hl : RdI .i64 w w.heap.size Al n l) (hc : RdI .u32 w w.heap.size Ac n (codesOf l)) (hbs : RdI .u8 w w.heap.size Ab nb bs) (hbit : Bit bs)
    (hn : n ≤ 288) (hin : ∀ i, i < n → 0 ≤ ix l i ∧ ix l i ≤ 15) (hat : at_ ≤ nb) (hnb : nb ≤ 1000000000000) :
    Calls Try.prog 69 #[.slice Al n cl, .slice Ac n cc, .slice Ab nb cb, .int .i64 at_] w (SymReadPost w l (bs.drop at_)) := by
  obtain ⟨x, hx⟩ : ∃ x, bs.drop at_ = x := ⟨_, rfl⟩
  rw [hx]
  have hxl : nb - at_ = x.length := by rw [← hx, List.length_drop, hbs.1]
  have hxb : Bit x := by rw [← hx]; exact hbit.drop_ at_
  have HLN := Lib.hid hl.1
  obtain ⟨lg, hlg⟩ : ∃ lg, lgT l 15 = lg := ⟨_, rfl⟩
  have hlg15 : lg ≤ 15 := by rw [← hlg]; exact lgT_le l 15
  have hmx : Hid (mxI l n = (lg : Int)) := by
    show _ = _
    rw [← hlg, HLN.out]; exact mxI_lgT fun i hi => (hin i (by rw [HLN.out]; exact hi)).2
  have hno : Hid (nextOf l x = if fh l x (min x.length lg) ≠ 0 then (selS l (fh l x (min x.length lg)) (hv x (fh l x (min x.length lg)) - nxt l (fh l x (min x.length lg))).toNat, fh l x (min x.length lg), 0) else if min x.length lg < lg then (0, 0, 5) else if lg = 0 ∧ x.length = 0 then (0, 0, 5) else (0, 0, 3)) := by
    show _ = _; unfold nextOf; rw [hlg]
  have HIN := Lib.hid hin
  have HX := Lib.hid hx
  have HLG := Lib.hid hlg
  have hl288 : Hid (l.length ≤ 288) := by show _ ≤ _; rw [← HLN.out]; exact hn
  clear hx hlg hin
  go_enter Try.func69, Try.ntmps69
  go_wp2
  go_loopw [12, 13] (ReadA w l n) (fun _ i _ => n - (intOf i).toNat)
  case atStart => exact ⟨0, Nat.zero_le _, rfl, rfl, (Ar.zeros w 16 (.int .i64 0) 105).congr fun j _ => ctV_zero l j, (Below.refl _ _).alloc (Nat.le_refl _) _⟩
  case round =>
    obtain ⟨k, hk, rfl, rfl, har, hb⟩ := hrel
    have m0 := mxI_nn l k
    obtain ⟨M, hM⟩ : ∃ M, mxI l k = M := ⟨_, rfl⟩
    rw [hM] at m0 ⊢
    by_cases hlt : k < n
    · have hkI : (0 : Int) ≤ k ∧ (k : Int) < (n : Int) := by omega
      obtain ⟨ad, rfl, hadb, c1⟩ := (hl.below hb).at_ hlt
      have ht := HIN.out k hlt
      have hM2 : Hid (mxI l (k + 1) = if M < ix l k then ix l k else M) := by show _ = _; rw [mxI, hM]
      clear hM
      by_cases h0 : ix l k = 0
      · have har2 := har.congr fun j _ => ctV_miss l k h0 j
        have hM3 : Hid (mxI l (k + 1) = M) := by show _ = _; rw [hM2.out, h0, if_neg (by omega)]
        rw [h0] at c1
        clear h0 ht
        go_wp2
        go_roundw
        case rel => exact ⟨k + 1, hlt, by go_num, by rw [hM3.out], har2, hb⟩
        case measure => simp [intOf]; omega
      · obtain ⟨v, hv⟩ : ∃ v : Nat, ix l k = (v : Int) := ⟨(ix l k).toNat, by omega⟩
        rw [hv] at c1 ht h0
        have hb1 : (1 : Int) ≤ (v : Int) ∧ (v : Int) ≤ 15 := by omega
        have c2 := har.cell (i := v) (by omega)
        rw [ctV_at l k (by omega)] at c2
        have z2 := har.frozen' (i := v) (by omega)
        have bd := cnt_le l k v
        have H := Lib.hid hv
        rw [hv] at hM2
        clear hv h0 ht
        have c1b : (wr.setCell ⟨w.heap.size, v, none⟩ (.int .i64 ((cnt l k v : Int) + 1))).cell? (ad.add k) = some (.int .i64 v) := by
          rw [World.cell?_setCell_other _ _ _ _ (fun e => by have h9 := congrArg Addr.block e; rw [addr_block] at h9; simp at h9; omega)]
          exact c1
        by_cases hgt : M < (v : Int)
        · have hM3 : Hid (mxI l (k + 1) = (v : Int)) := by show _ = _; rw [hM2.out, if_pos hgt]
          go_wp2
          go_roundw
          case rel => exact ⟨k + 1, hlt, by go_num, by rw [hM3.out], (har.set_ (by omega) _).congr fun j _ => ctV_hit l k (by omega) H.out j, hb.setCell (Nat.le_refl _) _⟩
          case measure => simp [intOf]; omega
        · have hM3 : Hid (mxI l (k + 1) = M) := by show _ = _; rw [hM2.out, if_neg hgt]
          go_wp2
          go_roundw
          case rel => exact ⟨k + 1, hlt, by go_num, by rw [hM3.out], (har.set_ (by omega) _).congr fun j _ => ctV_hit l k (by omega) H.out j, hb.setCell (Nat.le_refl _) _⟩
          case measure => simp [intOf]; omega
    · obtain rfl : n = k := by omega
      have hMl : M = (lg : Int) := by rw [← hM]; exact hmx.out
      clear hM
      subst hMl
      have har2 : Ar wr w.heap.size 16 (ctV l l.length) := by rw [← HLN.out]; exact har
      clear har m0
      go_wp2
      go_loopw [14, 15, 16, 17] (ReadB w l x lg) (fun _ _ i _ _ => lg + 1 - (intOf i).toNat)
      case atStart => exact ⟨1, Nat.le_refl _, by omega, by omega, rfl, rfl, rfl, rfl, har2, hb⟩
      case round =>
        clear har2 hb
        obtain ⟨k, hk1, hkl, hkx, rfl, rfl, rfl, hfh, har, hb⟩ := hrel
        by_cases hlt : k ≤ lg
        · obtain ⟨p, rfl⟩ : ∃ p, k = p + 1 := ⟨k - 1, by omega⟩
          rw [Nat.add_sub_cancel] at hfh ⊢
          by_cases hend : p < x.length
          · have hb1 := hv_bd hxb p
            have hb2 := hv_bd hxb (p + 1)
            have hge := hv_ge hxb (fh_all hfh.out)
            have hp15 := pow_mono2 (show p + 1 ≤ 15 by omega)
            have h15 : (2 : Int) ^ 15 = 32768 := rfl
            have hpp : (2 : Int) ^ (p + 1) = 2 * 2 ^ p := by rw [Int.pow_succ]; omega
            have hnx := nxt_bd l hl288.out (v := p + 1) (by omega)
            have hpc := preC_nxt l (show 1 ≤ p + 1 by omega)
            have hps := preC_succ l (show 1 ≤ p + 1 by omega)
            have hvs : hv x (p + 1) = 2 * hv x p + ix x p := rfl
            have hcb := cnt_le l l.length (p + 1)
            have hf2 := fh_zero_succ hfh.out
            have c3 := har.cell (i := p + 1) (by omega)
            rw [ctV_at l _ (by omega)] at c3
            obtain ⟨kk, hkk⟩ : ∃ kk : Nat, p + 1 = kk := ⟨_, rfl⟩
            obtain ⟨h, hh⟩ : ∃ h, hv x p = h := ⟨_, rfl⟩
            obtain ⟨b, hbb⟩ : ∃ b, ix x p = b := ⟨_, rfl⟩
            obtain ⟨V, hV⟩ : ∃ V, hv x (p + 1) = V := ⟨_, rfl⟩
            obtain ⟨ct, hct⟩ : ∃ ct, cnt l l.length (p + 1) = ct := ⟨_, rfl⟩
            obtain ⟨nx, hnxe⟩ : ∃ nx, nxt l (p + 1) = nx := ⟨_, rfl⟩
            obtain ⟨pc, hpce⟩ : ∃ pc, preC l (p + 1) = pc := ⟨_, rfl⟩
            obtain ⟨adb, rfl, _, c4⟩ := (hbs.below hb).at_ (i := at_ + p) (by omega)
            have e4 : ix bs (at_ + p) = b := by rw [← hbb, ← HX.out, ix_drop]
            rw [e4] at c4
            have hit : hitB l x (p + 1) = decide (V < (nx : Int) + (ct : Int)) := by unfold hitB; rw [hV, hnxe, hct]
            have hbt : b = 0 ∨ b = 1 := by
              rw [← hbb]
              unfold ix; rw [List.getD_eq_getElem?_getD]
              cases e : x[p]? with
              | none => simp
              | some v => simpa using hxb v (List.mem_of_getElem? e)
            rw [hit] at hf2
            rw [hh, hpce]
            rw [hct] at c3 hcb hps
            rw [hnxe] at hnx hge hpc hps
            rw [hh] at hb1 hvs
            rw [hbb] at hvs
            rw [hV] at hb2 hge hvs
            rw [hpce] at hpc
            rw [hkk] at c3 ⊢
            have hnum : 0 ≤ h ∧ h ≤ 32768 ∧ 0 ≤ V ∧ V ≤ 32768 ∧ (nx : Int) ≤ V ∧ (0 : Int) ≤ ct ∧ (ct : Int) ≤ 288 ∧ (1 : Int) ≤ kk ∧ (kk : Int) ≤ 15 ∧ (kk : Int) ≤ (lg : Int) ∧ (0 : Int) ≤ nx ∧ (nx : Int) = 2 * (pc : Int) ∧ (0 : Int) ≤ pc ∧ V = 2 * h + b ∧ 0 ≤ b ∧ b ≤ 1 ∧ (at_ : Int) + (kk : Int) ≤ (nb : Int) ∧ (pc : Int) ≤ 18874368 ∧ (0 : Int) ≤ at_ := by
              have := hl288.out
              omega
            have hix : ((at_ : Int) + (kk : Int) - 1).toNat = at_ + p := by omega
            have hixI : (at_ : Int) + (kk : Int) - 1 = ((at_ + p : Nat) : Int) := by omega
            by_cases hhit : V < (nx : Int) + (ct : Int)
            · have hf3 : fh l x (p + 1) = p + 1 := by rw [hf2, if_pos (by simp; omega)]
              have hmin : p + 1 ≤ min x.length lg := by omega
              have hfH : fh l x (min x.length lg) = p + 1 := by rw [fh_keep (m := p + 1) (by rw [hf3]; omega) hmin, hf3]
              obtain ⟨J, hJ⟩ := Int.eq_ofNat_of_zero_le (show 0 ≤ V - (nx : Int) by omega)
              obtain ⟨s, hs1, hs2, hs3, hs4⟩ := idxs_back l (n := p + 1) (j := J) (k := l.length) (by rw [hct]; omega)
              have hn3 : nextOf l x = ((s : Int), p + 1, 0) := by
                rw [hno.out, hfH, if_pos (by omega), hV, hnxe]
                have : (V - (nx : Int)).toNat = J := by omega
                rw [this]; unfold selS; rw [hs4]
              rw [hkk] at hn3 hs2
              have hcode : ∀ i, ix l i = (kk : Int) → codeAt l i = nx + cnt l i kk := fun i hi => by rw [codeAt_yes (by omega) (by omega) hi, ← hnxe, hkk]
              have hcs : Hid ((codeAt l s : Int) = V) := by show _ = _; rw [hcode s hs2, ← hkk, hs3]; omega
              have hcn : Hid (∀ i, i < s → ix l i = (kk : Int) → ¬ (codeAt l i : Int) = V) := fun i hi he e => by
                have h1 := cnt_strict hi he
                rw [hcode i he] at e
                rw [hkk] at hs3
                omega
              have hcb : Hid (∀ i : Nat, (codeAt l i : Int) < 4294967296) := fun i => by
                unfold codeAt
                split
                · rename_i hi
                  unfold isLen at hi
                  have h1 := nxt_bd l hl288.out (v := (ix l i).toNat) (by simp at hi; omega)
                  have h2 := cnt_le l l.length (ix l i).toNat
                  have h3 : cnt l i (ix l i).toNat ≤ i := cnt_le l i _
                  by_cases hii : i ≤ l.length
                  · have := hl288.out; omega
                  · have : ix l i = 0 := by unfold ix; rw [List.getD_eq_getElem?_getD, List.getElem?_eq_none (by omega)]; rfl
                    simp [this] at hi
                · omega
              have HN3 := Lib.hid hn3
              have HS2 := Lib.hid hs2
              have hsn : s < n := by rw [HLN.out]; exact hs1
              clear hn3 hs4 hs3 hs2 hJ hf3 hfH hf2 hit hcode hpce hnxe hct hV hh hbb hkk hvs hb1 hb2 hge hp15 h15 hpp hnx hpc hps e4 hbt hmin
              obtain ⟨hn0, hn1, hn2, hn3, hn4, hn5, hn6, hn7, hn8, hn9, hn10, hn11, hn12, hn13, hn14, hn15, hn16, hn17, hn18⟩ := hnum
              obtain rfl : V = h * 2 + b := by omega
              clear hn13
              have hhitI : h * 2 + b < (pc : Int) * 2 + (ct : Int) := by omega
              clear hhit
              go_wp2_with fail
              go_loopw [17] (ReadC wr s) (fun i _ => s + 1 - (intOf i).toNat)
              case atStart => exact ⟨0, 0, Nat.zero_le _, rfl, rfl⟩
              case round =>
                obtain ⟨j, q, hj, rfl, rfl⟩ := hrel
                have hjn : j < n := by omega
                have hjI : (j : Int) < (n : Int) ∧ (0 : Int) ≤ j := by omega
                obtain ⟨adl, rfl, _, cl1⟩ := (hl.below hb).at_ hjn
                obtain ⟨adc, rfl, _, cc1⟩ := (hc.below hb).at_ hjn
                rw [ix_codesOf l hl288.out (by rw [← HLN.out]; exact hjn)] at cc1
                have hcjb := hcb.out j
                obtain ⟨cj, hcj⟩ : ∃ cj, codeAt l j = cj := ⟨_, rfl⟩
                obtain ⟨y, hy⟩ : ∃ y, ix l j = y := ⟨_, rfl⟩
                rw [hcj] at cc1 hcjb
                rw [hy] at cl1
                by_cases hjs : j = s
                · subst hjs
                  have e1 : y = (kk : Int) := by rw [← hy]; exact HS2.out
                  have e2 : (cj : Int) = h * 2 + b := by rw [← hcj]; exact hcs.out
                  rw [e1] at cl1
                  rw [e2] at cc1
                  clear hy hcj e1 e2 hcjb
                  go_wp2_with fail
                  go_ret3
                  unfold SymReadPost
                  rw [HN3.out]
                  exact ⟨rfl, below_drewN hb q⟩
                · have hn1 : y = (kk : Int) → ¬ (cj : Int) = h * 2 + b := fun e => by rw [← hcj]; exact hcn.out j (by omega) (by rw [hy]; exact e)
                  clear hy hcj
                  by_cases hyk : y = (kk : Int)
                  · have e2 : ((cj : Int) == h * 2 + b) = false := by simpa using hn1 hyk
                    rw [hyk] at cl1
                    clear hn1 hyk
                    go_wp2_with fail
                    go_roundw
                    case rel => exact ⟨j + 1, q, by omega, by go_num, rfl⟩
                    case measure => simp [intOf]; omega
                  · have e2 : (y == (kk : Int)) = false := by simpa using hyk
                    clear hn1 hyk
                    go_wp2_with fail
                    go_roundw
                    case rel => exact ⟨j + 1, q, by omega, by go_num, rfl⟩
                    case measure => simp [intOf]; omega
            · have hf3 : Hid (fh l x (p + 1) = 0) := by show _ = _; rw [hf2, if_neg (by simp; omega)]
              have HV := Lib.hid hV
              have HKK := Lib.hid hkk
              have hpc2 : Hid (preC l (p + 1 + 1) = nx + ct) := hps
              clear hf2 hit hpce hnxe hct hV hh hbb hkk hvs hb1 hb2 hge hp15 h15 hpp hnx hpc hps e4 hbt
              obtain ⟨hn0, hn1, hn2, hn3, hn4, hn5, hn6, hn7, hn8, hn9, hn10, hn11, hn12, hn13, hn14, hn15, hn16, hn17, hn18⟩ := hnum
              obtain rfl : V = h * 2 + b := by omega
              clear hn13
              have hhitI : ¬ (h * 2 + b < (pc : Int) * 2 + (ct : Int)) := by omega
              go_wp2_with fail
              go_roundw
              case rel => exact ⟨kk + 1, by omega, by omega, by omega, by go_num, by rw [Nat.add_sub_cancel, ← HKK.out, HV.out], by rw [← HKK.out, hpc2.out]; go_num, by rw [Nat.add_sub_cancel, ← HKK.out]; exact hf3, har, hb⟩
              case measure => simp [intOf]; omega
          · have hHlg : min x.length lg = p := by omega
            have hno2 : nextOf l x = (0, 0, 5) := by rw [hno.out, hHlg, if_neg (by simpa using hfh.out), if_pos (by omega)]
            have HNO := Lib.hid hno2
            have hI : (nb : Int) < (at_ : Int) + ((p + 1 : Nat) : Int) ∧ (p : Int) + 1 ≤ (lg : Int) := by omega
            obtain ⟨V, hV⟩ : ∃ V, hv x p = V := ⟨_, rfl⟩
            rw [hV]
            clear hno2 hV
            go_wp2
            go_ret3
            unfold SymReadPost
            rw [HNO.out]
            exact ⟨rfl, hb⟩
        · obtain rfl : k = lg + 1 := by omega
          rw [Nat.add_sub_cancel] at hfh ⊢
          have hmn : min x.length lg = lg := by omega
          have hno2 : nextOf l x = if lg = 0 ∧ x.length = 0 then (0, 0, 5) else (0, 0, 3) := by
            have e1 : ¬ fh l x lg ≠ 0 := by have := hfh.out; omega
            have e2 : ¬ lg < lg := by omega
            rw [hno.out, hmn, if_neg e1, if_neg e2]
          have HNO := Lib.hid hno2
          obtain ⟨V, hV⟩ : ∃ V, hv x lg = V := ⟨_, rfl⟩
          rw [hV]
          have hkI : ((lg + 1 : Nat) : Int) = (lg : Int) + 1 := by omega
          clear hno2 hV
          by_cases h0 : lg = 0
          · by_cases h1 : x.length = 0
            · have e : Hid (nextOf l x = (0, 0, 5)) := by show _ = _; rw [HNO.out, if_pos ⟨h0, h1⟩]
              have hat2 : (nb : Int) ≤ (at_ : Int) := by omega
              subst h0
              clear h1
              go_wp2_with fail
              go_ret3
              unfold SymReadPost
              rw [e.out]
              exact ⟨rfl, hb⟩
            · have e : Hid (nextOf l x = (0, 0, 3)) := by show _ = _; rw [HNO.out, if_neg (fun h => h1 h.2)]
              have hat2 : ¬ (nb : Int) ≤ (at_ : Int) := by omega
              subst h0
              clear h1
              go_wp2_with fail
              go_ret3
              unfold SymReadPost
              rw [e.out]
              exact ⟨rfl, hb⟩
          · have e : Hid (nextOf l x = (0, 0, 3)) := by show _ = _; rw [HNO.out, if_neg (fun h => h0 h.1)]
            have e0 : ((lg : Int) == 0) = false := by simpa using h0
            clear h0
            go_wp2_with fail
            go_ret3
            unfold SymReadPost
            rw [e.out]
            exact ⟨rfl, hb⟩
end Go.Proofs.Ytckhkkjdibcclaa

/-
  Plain law: a stream that is cut off lacks bits, and what came out begins what would have come; as much comes out as may.
-/
namespace Go.Proofs.Ytckhkkjdibcclaa
set_option linter.unusedVariables false
section
variable {b : List Int} {M k m : Nat}
theorem start_app (x y : List Int) (M : Nat) : (start x M).app y = start (x ++ y) M := rfl
theorem start_cap (x : List Int) (M m : Nat) : (start x M).cap m = start x m := rfl
/-- a beginning of a whole stream -/
theorem cut_law (h8 : (start (bts b) M).fin.2 = 8) (hk : k < b.length - (start (bts b) M).fin.1.x.length / 8) :
    (start (bts (b.take k)) M).fin.2 = 5 ∧ ∃ l, (start (bts b) M).fin.1.all = (start (bts (b.take k)) M).fin.1.all ++ l := by
  obtain ⟨t, hs, ht⟩ := IS.fin_steps (start (bts (b.take k)) M)
  have hy : (bts (b.drop k)).length % 8 = 0 := by rw [bts_length]; omega
  have hs' := hs.app hy
  have e : (start (bts (b.take k)) M).app (bts (b.drop k)) = start (bts b) M := by rw [start_app, ← bts_append, List.take_append_drop]
  rw [e] at hs'
  have hf := hs'.fin_eq
  by_cases h5 : t.step.2 = 5
  · rw [← ht]
    refine ⟨h5, ?_⟩
    rw [IS.step_lack h5, ← hf]
    obtain ⟨l, h1, h2⟩ := IS.fin_out (t.app (bts (b.drop k)))
    exact ⟨l, h1⟩
  · exfalso
    have h0 : t.step.2 ≠ 0 := by rw [ht]; exact IS.fin_ne _
    have hst := IS.step_app h5 hy
    have hf2 := IS.fin_stop (s := t.app (bts (b.drop k))) (by rw [hst]; exact h0)
    rw [hf, hst] at hf2
    rw [hf2] at hk
    have hk : k < b.length - (t.step.1.x ++ bts (b.drop k)).length / 8 := hk
    rw [List.length_append, bts_length, List.length_drop] at hk
    omega
theorem IS.Steps.mu_le {s t : IS} (h : IS.Steps s t) : t.mu ≤ s.mu := by
  induction h with
  | refl => exact Nat.le_refl _
  | tail _ h2 ih => exact Nat.le_trans (Nat.le_of_lt (IS.mu_step h2)) ih
/-- a whole stream has at least one byte -/
theorem rest_pos (h8 : (start (bts b) M).fin.2 = 8) : 1 ≤ b.length - (start (bts b) M).fin.1.x.length / 8 := by
  obtain ⟨t, hs, ht⟩ := IS.fin_steps (start (bts b) M)
  have h8' : t.step.2 = 8 := by rw [ht]; exact h8
  obtain ⟨h1, g0, g1, g2, g3, g4, g5, g6, g7⟩ := IS.step_done h8'
  rw [← ht, h1]
  have hm : t.mu < (start (bts b) M).mu := by
    cases hs with
    | refl => exact absurd rfl g0
    | tail ha hb => exact Nat.lt_of_lt_of_le (IS.mu_step hb) ha.mu_le
  have e1 : t.mu = 3 * t.x.length := by unfold IS.mu; rw [if_neg g4, if_neg (by omega)]; rfl
  have e2 : (start (bts b) M).mu = 3 * (bts b).length := rfl
  rw [e1, e2, bts_length] at hm
  omega
/-- what a whole stream lets out under another bound -/
theorem caps_law (h8 : (start (bts b) M).fin.2 = 8) :
    (m < (start (bts b) M).fin.1.all.length → (start (bts b) m).fin.2 = 6 ∧ (start (bts b) m).fin.1.all = (start (bts b) M).fin.1.all.take m) ∧
    (m = (start (bts b) M).fin.1.all.length → (start (bts b) m).fin.2 = 8 ∧ (start (bts b) m).fin.1.all = (start (bts b) M).fin.1.all) := by
  obtain ⟨t, hs, ht⟩ := IS.fin_steps (start (bts b) M)
  have h8' : t.step.2 = 8 := by rw [ht]; exact h8
  obtain ⟨h1, g0, g1, g2, g3, g4, g5, g6, g7⟩ := IS.step_done h8'
  obtain ⟨l, h2, h3⟩ := hs.out
  have h2 : t.all = [] ++ l := h2
  rw [← ht, h1, h2, List.nil_append]
  refine ⟨fun hm => ?_, fun hm => ?_⟩
  · have := (hs.cap l h2 m).2 hm
    rw [start_cap] at this
    exact this
  · have hc := (hs.cap l h2 m).1 (by omega)
    rw [start_cap] at hc
    rw [← hc.fin_eq]
    have hst : (t.cap (m - l.length)).step = (t.cap (m - l.length), 8) := by
      unfold IS.step IS.cap
      simp only [if_neg g0, if_neg g1, if_neg g2, if_neg g3, if_neg g4, if_neg g5, if_neg g6, if_neg g7]
    rw [IS.fin_stop (by rw [hst]; simp), hst]
    exact ⟨rfl, h2⟩
end
end Go.Proofs.Ytckhkkjdibcclaa
