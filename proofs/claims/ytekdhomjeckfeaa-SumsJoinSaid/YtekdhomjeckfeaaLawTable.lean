/-
  The walk of the law SumsTable.
-/
import Derived.Test.YtekdhomjeckfeaaProg
import Derived.Test.YtekdhomjeckfeaaLawSums
import Derived.Deep.RegionHeld3
namespace Go.Proofs.Ytekdhomjeckfeaa
open Go.RowKit
set_option linter.unusedVariables false

theorem RdI.drew {k : IntKind} {w : World} {B n : Nat} {A : Option Addr} {l : List Int} (h : RdI k w B A n l) : RdI k w.drew B A n l := h
theorem cmp_cmp {x : Int} (h : 0 ≤ x ∧ x < 4294967296) : cmpI (cmpI x) = x := by
  unfold cmpI xorI
  simp only [Int.toNat_natCast]
  have : (4294967295 : Int).toNat ^^^ ((4294967295 : Int).toNat ^^^ x.toNat) = x.toNat := by rw [← Nat.xor_assoc, Nat.xor_self, Nat.zero_xor]
  rw [this]; omega
theorem cmp_max : cmpI 4294967295 = 0 := by decide +kernel
theorem one_crc {k : Int} (h : 0 ≤ k ∧ k < 256) : cmpI (cmpI (crTo (cmpI 4294967295) [k] 1)) = stpKI 8 k := by
  have e : crTo (cmpI 4294967295) [k] 1 = stpKI 8 k := by
    rw [cmp_max]
    show stpKI 8 (xorI 0 k) = _
    congr 1
    unfold xorI
    simp; omega
  rw [e, cmp_cmp (stpKI_bd 8 (by omega))]

set_option maxRecDepth 100000 in
set_option maxHeartbeats 4000000 in
theorem sumsTable_walk (s : Int) (b : Int) (w : World) (hs0 : (Lit.int .u32 s).wf = true) (hb0 : (Lit.int .u8 b).wf = true) :
    Calls Try.prog 4 #[.int .u32 s, .int .u8 b] w fun e w' => e = .returned (.bool true) ∧ Below w.heap.size w w' := by
  have hs := bd_u32 hs0
  have hb : 0 ≤ b ∧ b < 256 := by simp [Lit.wf, IntKind.min, IntKind.max, IntKind.signed, IntKind.bits] at hb0; omega
  clear hs0 hb0
  have hz := zero256
  go_enter Try.func4, Try.ntmps4
  go_wp2_with fail
  refine (table_any _).mono ?_
  rintro e w1 ⟨rfl, hb1⟩
  have h1 : Blk (w1.alloc (.cells (zrow 256 (.int .u32 0)) 27)) w1.heap.size 27 256 (tabV 0) := Blk.new rfl _ _ (by rw [zrow_arr]; exact arrOf_congr fun i _ => tabV_zero i)
  go_wp2_with (refine wpList_store_row rfl 27 (.tmp 5) (.tmp 8) rfl w1.heap.size (arrOf 256 (tabV 256)) rfl rfl 27 _ h1 (by rw [arrOf_size]; exact tab_info) (by rw [arrOf_size, arrOf_size]) (arrOf_one _ _ fun _ _ => rfl) ?_)
  clear hz
  have h2 : Blk ((w1.alloc (.cells (zrow 256 (.int .u32 0)) 27)).setRow w1.heap.size (arrOf 256 (tabV 256))) w1.heap.size 27 256 (tabV 256) := h1.row 256 (tabV 256)
  have hb2 : Below w.heap.size w ((w1.alloc (.cells (zrow 256 (.int .u32 0)) 27)).setRow w1.heap.size (arrOf 256 (tabV 256))) := below_setRow (hb1.alloc hb1.size _) hb1.size _
  obtain ⟨g, hg⟩ : ∃ g, g = w1.heap.size := ⟨_, rfl⟩
  obtain ⟨w2, hw2⟩ : ∃ w2 : World, w2 = (w1.alloc (.cells (zrow 256 (.int .u32 0)) 27)).setRow w1.heap.size (arrOf 256 (tabV 256)) := ⟨_, rfl⟩
  rw [← hw2] at h2 hb2 ⊢
  rw [← hg] at h2 ⊢
  have hgb : w.heap.size ≤ g := by rw [hg]; exact hb1.size
  clear hw2 hg h1 hb1
  go_loopw [6] (fun i wr => ∃ k : Nat, k ≤ 256 ∧ i = .int .i64 k ∧ Blk wr g 27 256 (tabV 256) ∧ Below w.heap.size w wr) (fun i _ => 256 - (intOf i).toNat)
  case atStart => exact ⟨0, by omega, rfl, h2, hb2⟩
  case round =>
    obtain ⟨k, hk, rfl, h2, hb2⟩ := hrel
    have hgl := h2.lt
    by_cases hlt : k < 256
    · have c1 := h2.cell hlt
      have hk0 : (0 : Int) ≤ (k : Int) ∧ (k : Int) < 256 := by omega
      have e1 : tabV 256 k = .int .u32 (stpKI 8 (k : Int)) := by rw [← tabV_at hk0]; rfl
      rw [e1] at c1
      have H1 := Lib.hid (one_crc hk0)
      have Hm := not32 (s := cmpI (crTo (cmpI 4294967295) [(k : Int)] 1)) (cmpI_bd (crTo_bd (cmpI_bd (by omega)) (bd_of (by simp; omega)) 1))
      rw [H1.out] at Hm
      obtain ⟨T, hT⟩ : ∃ T : Int, stpKI 8 (k : Int) = T := ⟨_, rfl⟩
      rw [hT] at c1 Hm
      clear hT e1 H1
      obtain ⟨V, hV⟩ : ∃ V : Int, cmpI (crTo (cmpI 4294967295) [(k : Int)] 1) = V := ⟨_, rfl⟩
      rw [hV] at Hm
      have Hm2 : bits .xor .u32 (if IntKind.u32.signed = true then -1 else IntKind.u32.max) V = T := Hm
      have HV := Lib.hid hV
      clear hV
      have hbd := bd_of (l := [(k : Int)]) (by simp; omega)
      have hk8 : IntKind.u8.wrap (k : Int) = (k : Int) := IntWalk.u8_in _ (by omega)
      go_wp2_with fail
      go_region_held3 (fun w' => w'.cell? ⟨g, k, none⟩ = some (.int .u32 T))
        (first | go_keep)
        (first | (go_at_call 9; refine (rcrc_any 4294967295 _ _ _ _ [(k : Int)] _ (RdI.drew (RdI.lit' .u8 rfl [(k : Int)] 5)) hbd (by omega) (by simp)).mono ?_; rintro e w3 ⟨rfl, rfl⟩; rw [show [(k : Int)].length = 1 from rfl, HV.out]))
      go_wp2
      go_roundw
      case rel => exact ⟨k + 1, by omega, by go_num, (h2.alloc _).drew, (hb2.alloc hb2.size _).drew⟩
      case measure => simp [intOf]; omega
    · obtain rfl : 256 = k := by omega
      have H0 := not32 hs
      have B0 := cmpI_bd hs
      have HC : Hid (∀ W : World, True) := fun _ => trivial
      obtain ⟨x, hx⟩ : ∃ x : Int, cmpI s = x := ⟨_, rfl⟩
      rw [hx] at H0 B0
      have HX := Lib.hid hx
      clear hx
      have hxi := xorI_bd8 (a := x % 256) (b := b) (by omega) hb
      have hX := xor8 (a := x % 256) (b := b) (by omega) hb
      have c1 := h2.cell (i := (xorI (x % 256) b).toNat) (by omega)
      rw [tabV_at hxi] at c1
      have hy := stpKI_bd 8 (x := xorI (x % 256) b) (by omega)
      have hY := xor32 (a := stpKI 8 (xorI (x % 256) b)) (b := x / 256) hy (by omega)
      rw [table_step B0 hb] at hY
      have hZ := crStep_bd B0 hb
      have hxw : IntKind.u8.wrap x = x % 256 := by rw [IntKind.wrap_u8]
      obtain ⟨j, hj⟩ : ∃ j : Int, xorI (x % 256) b = j := ⟨_, rfl⟩
      rw [hj] at hX c1 hY hy hxi
      obtain ⟨T, hT⟩ : ∃ T : Int, stpKI 8 j = T := ⟨_, rfl⟩
      rw [hT] at c1 hY hy
      have hR : Hid (crTo x [b] 1 = crStep x b) := by show crStep x (ix [b] 0) = _; rfl
      obtain ⟨Z, hZe⟩ : ∃ Z : Int, crStep x b = Z := ⟨_, rfl⟩
      rw [hZe] at hY hZ hR
      have hN : bits .xor .u32 (if IntKind.u32.signed = true then -1 else IntKind.u32.max) Z = cmpI Z := not32 hZ
      clear hj hT hZe HC
      have hbd := bd_of (l := [b]) (by simp; omega)
      go_wp2_with fail
      go_region_held3 (fun w' => w'.cell? ⟨g, j.toNat, none⟩ = some (.int .u32 T))
        (first | go_keep | (rw [hb3.cell (by simp; omega)]; assumption) | (rw [hb4.cell (by have := hb3.size; simp at this ⊢; omega)]; first | assumption | (have hsz := hb3.size; simp at hsz; have hgw : g < w3.heap.size := by omega; go_keep)))
        (first | (go_at_call 7; refine (sanswers_any _).mono ?_; rintro e w3 ⟨rfl, hb3⟩) | (go_at_call 8; refine (crc_any s _ _ _ _ [b] _ (RdI.lit' .u8 (by simp) [b] 5) (by simp) hbd hs (by simp)).mono ?_; rintro e w4 ⟨rfl, hb4⟩; rw [HX.out, show [b].length = 1 from rfl, hR.out]))
      have hN2 := not32 hZ
      have hb5 : Below w.heap.size w w3 := hb2.drew.trans (hb3.mono (by simpa using hb2.size))
      have hb6 := hb5.alloc hb5.size (.cells ([b].map (Value.int .u8)).toArray 5)
      have hb7 := hb6.trans (hb4.mono hb6.size)
      go_wp2
      go_ret
      exact ⟨ret_bool (by rw [hN2]; exact beq_self_eq_true _), hb7⟩
end Go.Proofs.Ytekdhomjeckfeaa
