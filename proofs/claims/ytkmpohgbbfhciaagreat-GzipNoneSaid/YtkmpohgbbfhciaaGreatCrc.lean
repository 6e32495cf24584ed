/-
  The walks of sums.CRC and of the reference's CRC.
-/
import Derived.Test.YtkmpohgbbfhciaaGreatProg
import Derived.Test.YtkmpohgbbfhciaaGreatSums
namespace Go.Proofs.YtkmpohgbbfhciaaGreat
open Go.RowKit
set_option linter.unusedVariables false

def cmpI (s : Int) : Int := xorI 4294967295 s
theorem cmpI_bd {s : Int} (h : 0 ≤ s ∧ s < 4294967296) : 0 ≤ cmpI s ∧ cmpI s < 4294967296 := xorI_bd (by omega) h
theorem not32 {s : Int} (h : 0 ≤ s ∧ s < 4294967296) : bits .xor .u32 IntKind.u32.max s = cmpI s := xor32 (by decide) h
theorem xor8 {a b : Int} (h : 0 ≤ a ∧ a < 256) (h' : 0 ≤ b ∧ b < 256) : bits .xor .u8 a b = xorI a b := u8_xor a b h.1 h.2 h'.1 h'.2
theorem tabV_at {i : Int} (h : 0 ≤ i ∧ i < 256) : tabV 256 i.toNat = .int .u32 (stpKI 8 i) := by
  unfold tabV; rw [if_pos (by omega)]; congr 2; omega

set_option maxRecDepth 100000 in
set_option maxHeartbeats 2000000 in
theorem crc_any (s : Int) (A : Option Addr) (n c B : Nat) (l : List Int) (w : World) (hr : RdI .u8 w B A n l) (hB : B ≤ w.heap.size) (hl : ∀ i, 0 ≤ ix l i ∧ ix l i < 256) (hs : 0 ≤ s ∧ s < 4294967296) (hn : n ≤ 1000000) :
    Calls Tryz.prog 16 #[.int .u32 s, .slice A n c] w fun e w' => e = .returned (.int .u32 (cmpI (crTo (cmpI s) l n))) ∧ Below w.heap.size w w' := by
  have hz := zero256
  have HL := Lib.hid hl
  clear hl
  go_enter Tryz.func16, Tryz.ntmps16
  go_wp2_with fail
  refine (table_any _).mono ?_
  rintro e w1 ⟨rfl, hb⟩
  have h1 : Blk (w1.alloc (.cells (zrow 256 (.int .u32 0)) 65)) w1.heap.size 65 256 (tabV 0) := Blk.new rfl _ _ (by rw [zrow_arr]; exact arrOf_congr fun i _ => tabV_zero i)
  go_wp2_with (refine wpList_store_row rfl 65 (.tmp 5) (.tmp 9) rfl w1.heap.size (arrOf 256 (tabV 256)) rfl rfl 65 _ h1 (by rw [arrOf_size]; exact tab_info) (by rw [arrOf_size, arrOf_size]) (arrOf_one _ _ fun _ _ => rfl) ?_)
  clear hz
  have h2 : Blk ((w1.alloc (.cells (zrow 256 (.int .u32 0)) 65)).setRow w1.heap.size (arrOf 256 (tabV 256))) w1.heap.size 65 256 (tabV 256) := h1.row 256 (tabV 256)
  have hb2 : Below w.heap.size w ((w1.alloc (.cells (zrow 256 (.int .u32 0)) 65)).setRow w1.heap.size (arrOf 256 (tabV 256))) := below_setRow (hb.alloc hb.size _) hb.size _
  obtain ⟨g, hg⟩ : ∃ g, g = w1.heap.size := ⟨_, rfl⟩
  obtain ⟨w2, hw2⟩ : ∃ w2 : World, w2 = (w1.alloc (.cells (zrow 256 (.int .u32 0)) 65)).setRow w1.heap.size (arrOf 256 (tabV 256)) := ⟨_, rfl⟩
  rw [← hw2] at h2 hb2 ⊢
  rw [← hg] at h2 ⊢
  have hgb : w.heap.size ≤ g := by rw [hg]; exact hb.size
  clear hw2 hg h1 hb
  have H0 := Lib.hid (not32 hs)
  have B0 := cmpI_bd hs
  have hr2 := (hr.more hB).below hb2
  rw [H0.out]
  go_loop [6, 14] (fun x i => ∃ (k : Nat) (v : Int), k ≤ n ∧ i = .int .i64 k ∧ x = .int .u32 v ∧ 0 ≤ v ∧ v < 4294967296 ∧ Hid (v = crTo (cmpI s) l k)) (fun _ i => n - (intOf i).toNat)
  case atStart => exact ⟨0, _, by omega, rfl, rfl, B0.1, B0.2, rfl⟩
  case round =>
    obtain ⟨k, v, hk, rfl, rfl, hv0, hv1, HV⟩ := hrel
    by_cases hlt : k < n
    · obtain ⟨a1, rfl, _, e1⟩ := hr2.at_ hlt
      have hcb := HL.out k
      obtain ⟨b, hb⟩ : ∃ b : Int, b = ix l k := ⟨_, rfl⟩
      rw [← hb] at e1 hcb
      have HB := Lib.hid hb
      clear hb
      have hx := xorI_bd8 (a := v % 256) (b := b) (by omega) hcb
      have hX := xor8 (a := v % 256) (b := b) (by omega) hcb
      have c1 := h2.cell (i := (xorI (v % 256) b).toNat) (by omega)
      rw [tabV_at hx] at c1
      have hy := stpKI_bd 8 (x := xorI (v % 256) b) (by omega)
      have hY := xor32 (a := stpKI 8 (xorI (v % 256) b)) (b := v / 256) hy (by omega)
      rw [table_step ⟨hv0, hv1⟩ hcb] at hY
      have hZ := crStep_bd ⟨hv0, hv1⟩ hcb
      go_wp2
      go_round
      case rel => exact ⟨k + 1, _, by omega, by go_num, rfl, hZ.1, hZ.2, by show crStep v b = crStep _ _; rw [← HV.out, ← HB.out]⟩
      case measure => simp [intOf]; omega
    · obtain rfl : n = k := by omega
      have H1 := not32 ⟨hv0, hv1⟩
      go_wp2
      go_ret
      exact ⟨ret_int (by rw [HV.out]), hb2⟩

end Go.Proofs.YtkmpohgbbfhciaaGreat
