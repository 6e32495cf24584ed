/-
  The walks of answers and of the law SumsAre.
-/
import Derived.Test.YtekdhomjeckfeaaProg
import Derived.Test.YtekdhomjeckfeaaCrc
import Derived.Test.YtekdhomjeckfeaaAdler
import Derived.Lib.SlBytesConst
namespace Go.Proofs.Ytekdhomjeckfeaa
open Go.RowKit
set_option linter.unusedVariables false

/-- A constant text's bytes, newly laid. -/
theorem RdI.litf (k : IntKind) {w : World} {g : Nat} (hg : g = w.heap.size) (l : List Int) (t : TypeId) (fr : Nat × Nat) : RdI k (w.alloc (.cells (l.map (Value.int k)).toArray t fr)) (g + 1) (some ⟨g, 0, none⟩) l.length l := by
  subst hg
  refine ⟨rfl, fun _ => ⟨_, rfl, Nat.lt_succ_self _, fun i hi => ?_⟩⟩
  have : (⟨w.heap.size, 0, none⟩ : Addr).add i = ⟨w.heap.size, i, none⟩ := by unfold Addr.add; split <;> simp_all
  rw [this, cell_of_row _ _ i _ t fr (heap_alloc_new w _)]
  simp [ix, hi]
theorem bd_of {l : List Int} (h : ∀ x ∈ l, 0 ≤ x ∧ x < 256) (i : Nat) : 0 ≤ ix l i ∧ ix l i < 256 := by
  unfold ix
  rw [List.getD_eq_getElem?_getD]
  cases hi : l[i]? with
  | none => simp
  | some v => exact h v (List.mem_of_getElem? hi)
theorem bd_wf {l : List Int} (h : ∀ x ∈ l, (Lit.int .u8 x).wf = true) : ∀ x ∈ l, 0 ≤ x ∧ x < 256 := by
  intro x hx
  have := h x hx
  simp [Lit.wf, IntKind.min, IntKind.max, IntKind.signed, IntKind.bits] at this
  omega
theorem bd_u32 {x : Int} (h : (Lit.int .u32 x).wf = true) : 0 ≤ x ∧ x < 4294967296 := by
  simp [Lit.wf, IntKind.min, IntKind.max, IntKind.signed, IntKind.bits] at h
  omega

set_option maxRecDepth 100000 in
theorem sanswers_any (w : World) : Calls Try.prog 7 #[] w fun e w' => e = .returned (.bool true) ∧ Below w.heap.size w w' := by
  have c0 : cmpI (crTo (cmpI 0) [49, 50, 51, 52, 53, 54, 55, 56, 57] 9) = 3421780262 := by decide +kernel
  have a0 : adY (lowH 1) (highH 1) [97, 98, 99] 3 * 65536 + adX (lowH 1) [97, 98, 99] 3 = 38600999 := by decide +kernel
  have C0 := Lib.hid c0
  have A0 := Lib.hid a0
  clear c0 a0
  have kc := fun (w : World) (C : Array Value) (n c : Nat) => Lib.run_convert_bytes_const (P := Try.prog) w 23 5 C n c Try.underlying23 Try.underlying5
  go_enter Try.func7, Try.ntmps7
  go_wp2_with fail
  refine (crc_any 0 _ _ _ _ [49, 50, 51, 52, 53, 54, 55, 56, 57] _ (RdI.litf .u8 rfl _ 5 _) (by simp) (bd_of (by decide)) (by omega) (by simp)).mono ?_
  rintro e w1 ⟨rfl, hb⟩
  rw [show ([49, 50, 51, 52, 53, 54, 55, 56, 57] : List Int).length = 9 from rfl, C0.out]
  have hb1 := ((Below.refl w.heap.size w).alloc (Nat.le_refl _) (.cells ([49, 50, 51, 52, 53, 54, 55, 56, 57].map (Value.int .u8)).toArray 5 (9, 10))).trans (hb.mono (by simp))
  go_wp2_with fail
  refine (adler_any 1 _ _ _ _ [97, 98, 99] _ (RdI.litf .u8 rfl _ 5 _) (bd_of (by decide)) (by omega) (by simp)).mono ?_
  rintro e w2 ⟨rfl, rfl⟩
  rw [show ([97, 98, 99] : List Int).length = 3 from rfl, A0.out]
  go_wp2
  go_ret
  exact ⟨rfl, hb1.alloc hb1.size _⟩

set_option maxHeartbeats 1000000 in
theorem sumsAre_walk (s : Int) (A : Option Addr) (n c : Nat) (l : List Int) (w : World) (hs0 : (Lit.int .u32 s).wf = true) (hr : RdI .u8 w w.heap.size A n l) (hn0 : n ≤ maxLen) (hwf : ∀ x ∈ l, (Lit.int .u8 x).wf = true) :
    Calls Try.prog 3 #[.int .u32 s, .slice A n c] w fun e w' => e = .returned (.bool true) ∧ Below w.heap.size w w' := by
  have hnI : (n : Int) ≤ 9223372036854775807 := by unfold maxLen at hn0; omega
  have hs := bd_u32 hs0
  have HL := Lib.hid (bd_of (bd_wf hwf))
  clear hn0 hs0 hwf
  by_cases h1 : (20000 : Int) < n
  · go_enter Try.func3, Try.ntmps3
    go_wp2_with fail
    refine (sanswers_any _).mono ?_
    rintro e w1 ⟨rfl, hb⟩
    go_wp2
    go_ret
    exact ⟨rfl, hb⟩
  · have hn : n ≤ 1000000 := by omega
    go_enter Try.func3, Try.ntmps3
    go_wp2_with fail
    refine (sanswers_any _).mono ?_
    rintro e w1 ⟨rfl, hb⟩
    have hr1 := hr.below hb
    go_wp2_with fail
    refine (crc_any _ _ _ _ _ _ _ hr1 hb.size HL.out hs hn).mono ?_
    rintro e w2 ⟨rfl, hb2⟩
    have hb3 := hb.trans (hb2.mono hb.size)
    have hr2 := hr.below hb3
    go_wp2_with fail
    refine (rcrc_any _ _ _ _ _ _ _ hr2 HL.out hs hn).mono ?_
    rintro e w3 ⟨rfl, rfl⟩
    obtain ⟨C, hC⟩ : ∃ C : Int, cmpI (crTo (cmpI s) l n) = C := ⟨_, rfl⟩
    rw [hC]
    clear hC
    go_wp2_with fail
    refine (adler_any _ _ _ _ _ _ _ hr2 HL.out hs hn).mono ?_
    rintro e w3 ⟨rfl, rfl⟩
    go_wp2_with fail
    refine (radler_any _ _ _ _ _ _ _ hr2 HL.out hs hn).mono ?_
    rintro e w3 ⟨rfl, rfl⟩
    obtain ⟨D, hD⟩ : ∃ D : Int, adY (lowH s) (highH s) l n * 65536 + adX (lowH s) l n = D := ⟨_, rfl⟩
    rw [hD]
    clear hD
    go_wp2
    go_ret
    exact ⟨rfl, hb3⟩
end Go.Proofs.Ytekdhomjeckfeaa
