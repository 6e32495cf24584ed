/-
  The walks of gzip's parser: number, take, want, one.
-/
import Derived.Test.YtgdmhicfeipbjaaProg
import Derived.Test.YtgdmhicfeipbjaaSlc
import Derived.Test.YtgdmhicfeipbjaaStep
import Derived.Test.YtgdmhicfeipbjaaHdP
namespace Go.Proofs.Ytgdmhicfeipbjaa
open Go.RowKit
set_option linter.unusedVariables false

theorem or32h (a b k : Nat) (hb : b < 2 ^ k) (h : a * 2 ^ k + b < 4294967296) : bits .or .u32 (b : Int) ((a * 2 ^ k : Nat) : Int) = ((a * 2 ^ k + b : Nat) : Int) := by
  rw [u32_or_nat _ _ (by omega) (by omega), Nat.or_comm, Nat.mul_comm, ← Nat.two_pow_add_eq_or_of_lt hb]
theorem or_le {v c : Int} (k : Nat) (hv : 0 ≤ v ∧ v < 2 ^ k) (hc : 0 ≤ c) (h : c * 2 ^ k + v < 4294967296) : bits .or .u32 v (c * 2 ^ k) = v + c * 2 ^ k := by
  obtain ⟨v, rfl⟩ := Int.eq_ofNat_of_zero_le hv.1
  obtain ⟨c, rfl⟩ := Int.eq_ofNat_of_zero_le hc
  have e : ((2 ^ k : Nat) : Int) = 2 ^ k := by simp
  have h1 : v < 2 ^ k := by have := hv.2; rw [← e] at this; exact Int.ofNat_lt.1 this
  have h2 : c * 2 ^ k + v < 4294967296 := by rw [← e, ← Int.natCast_mul, ← Int.natCast_add] at h; omega
  have := or32h c v k h1 h2
  rw [Int.natCast_mul, Int.natCast_add, Int.natCast_mul, e] at this
  rw [this, Int.add_comm]

theorem or_step {v b : Int} {k : Nat} (hk : k < 4) (hv : 0 ≤ v ∧ v < 256 ^ k) (hb : 0 ≤ b ∧ b < 256) :
    bits .or .u32 v (b * 2 ^ (8 * k) % 4294967296) = v + 256 ^ k * b ∧ 0 ≤ v + 256 ^ k * b ∧ v + 256 ^ k * b < 256 ^ (k + 1) := by
  obtain rfl | rfl | rfl | rfl : k = 0 ∨ k = 1 ∨ k = 2 ∨ k = 3 := by omega
  · have := or_le (v := v) (c := b) 0 (by simpa using hv) hb.1 (by simp at hv ⊢; omega)
    simp at hv this ⊢
    rw [Int.emod_eq_of_lt (by omega) (by omega)]
    exact ⟨this, by omega, by omega⟩
  · have := or_le (v := v) (c := b) 8 (by simpa using hv) hb.1 (by simp at hv ⊢; omega)
    simp at hv this ⊢
    rw [Int.emod_eq_of_lt (by omega) (by omega)]
    exact ⟨this.trans (by omega), by omega, by omega⟩
  · have := or_le (v := v) (c := b) 16 (by simpa using hv) hb.1 (by simp at hv ⊢; omega)
    simp at hv this ⊢
    rw [Int.emod_eq_of_lt (by omega) (by omega)]
    exact ⟨this.trans (by omega), by omega, by omega⟩
  · have := or_le (v := v) (c := b) 24 (by simpa using hv) hb.1 (by simp at hv ⊢; omega)
    simp at hv this ⊢
    rw [Int.emod_eq_of_lt (by omega) (by omega)]
    exact ⟨this.trans (by omega), by omega, by omega⟩

theorem number_any (w : World) (B n c : Nat) (A : Option Addr) (l : List Int) (hl : RdI .u8 w B A n l) (hn : n ≤ 4) (hb : ∀ x ∈ l, 0 ≤ x ∧ x < 256) :
    Calls Try.prog 18 #[.slice A n c] w fun e w' => e = .returned (.int .u32 (leI l)) ∧ ∃ q, w' = w.drewN q := by
  have HL := Lib.hid hl.1
  go_enter Try.func18, Try.ntmps18
  go_wp2
  go_loopw [3, 8] (fun x i wr => ∃ (k q : Nat) (v : Int), k ≤ n ∧ i = .int .i64 k ∧ x = .int .u32 v ∧ 0 ≤ v ∧ v < 256 ^ k ∧ Hid (v = leI (l.take k)) ∧ wr = w.drewN q) (fun _ i _ => n - (intOf i).toNat)
  case atStart => exact ⟨0, 0, 0, Nat.zero_le _, rfl, rfl, by omega, by simp, rfl, rfl⟩
  case round =>
    obtain ⟨k, q, v, hk, rfl, rfl, hv0, hv1, HV, rfl⟩ := hrel
    by_cases hlt : k < n
    · obtain ⟨a1, rfl, _, hc⟩ := hl.at_ hlt
      have hbd := ix_mem_bd hb k
      have HS : Hid (leI (l.take (k + 1)) = leI (l.take k) + 256 ^ k * ix l k) := by
        show _ = _
        rw [take_succ_ix (by rw [← HL.out]; exact hlt), leI_app]
        congr 2
        rw [List.length_take, Nat.min_eq_left (by rw [← HL.out]; omega)]
      obtain ⟨b, hb'⟩ : ∃ b : Int, ix l k = b := ⟨_, rfl⟩
      rw [hb'] at hc hbd HS
      clear hb'
      have hk0 : (0 : Int) ≤ k ∧ (k : Int) < n := by omega
      have hk3 : (k : Int) < 4 := by omega
      have hor := or_step (by omega) ⟨hv0, hv1⟩ hbd
      go_wp2
      go_roundw
      case rel => exact ⟨k + 1, q, _, by omega, by go_num, rfl, hor.2.1, hor.2.2, by show _ = _; rw [HS.out, HV.out], rfl⟩
      case measure => simp [intOf]; omega
    · obtain rfl : n = k := by omega
      go_wp2
      try go_ret
      exact ⟨ret_int (by rw [HV.out, List.take_of_length_le (by rw [← HL.out]; exact Nat.le_refl _)]), _, rfl⟩

theorem rbyte_info : (Try.prog.info? 5).map (fun i => (i.zero, i.size, i.bytes)) = some (some (.int .u8 0), 1, 1) := by kernel_rfl
/-- the parser's cells -/
def pf (A : Option Addr) (n c : Nat) (a : Nat) (e : Int) : Nat → Value
  | 0 => .slice A n c
  | 1 => .int .i64 a
  | _ => .int .i64 e
def ps (g : Nat) : Value := .pointer (some ⟨g, 0, none⟩)

/-- The parser at block g over the bytes l (slice A n c below B), a of them taken, fault e. -/
structure Psr (w : World) (B g : Nat) (A : Option Addr) (n c : Nat) (l : List Int) (a : Nat) (e : Int) : Prop where
  cell : Ar w g 3 (pf A n c a e)
  rd : RdI .u8 w B A n l
  lo : B ≤ g
  le : a ≤ n
  cap : n ≤ c
  small : n ≤ 1000000
section
variable {w w' : World} {B g n c a : Nat} {A : Option Addr} {l : List Int} {e : Int}
theorem Psr.drewN (h : Psr w B g A n c l a e) (q : Nat) : Psr (w.drewN q) B g A n c l a e := ⟨h.cell.drewN q, h.rd.drewN q, h.lo, h.le, h.cap, h.small⟩
theorem Psr.fault (h : Psr w B g A n c l a e) (e' : Int) : Psr (w.setCell ⟨g, 2, none⟩ (.int .i64 e')) B g A n c l a e' :=
  ⟨(h.cell.set_ (i := 2) (by omega) _).congr fun i hi => by
    obtain rfl | rfl | rfl : i = 0 ∨ i = 1 ∨ i = 2 := by omega
    all_goals rfl, h.rd.keep fun p hp => World.cell?_setCell_other _ _ _ _ (fun e => by have h9 := congrArg Addr.block e; have := h.lo; simp at h9; omega), h.lo, h.le, h.cap, h.small⟩
theorem Psr.move (h : Psr w B g A n c l a e) {a' : Nat} (ha : a' ≤ n) : Psr (w.setCell ⟨g, 1, none⟩ (.int .i64 (a' : Int))) B g A n c l a' e :=
  ⟨(h.cell.set_ (i := 1) (by omega) _).congr fun i hi => by
    obtain rfl | rfl | rfl : i = 0 ∨ i = 1 ∨ i = 2 := by omega
    all_goals rfl, h.rd.keep fun p hp => World.cell?_setCell_other _ _ _ _ (fun e => by have h9 := congrArg Addr.block e; have := h.lo; simp at h9; omega), h.lo, ha, h.cap, h.small⟩
theorem rd_mid {k : IntKind} (h : RdI k w B A n l) {i m : Nat} (hi : i + m ≤ n) (hc : n ≤ c) : RdI k w B (cutA A c i) m ((l.drop i).take m) :=
  RdI.pre (RdI.cutA h (j := i) (by omega) hc) (by omega)
end

def TakePost (w : World) (B g : Nat) (A : Option Addr) (n c : Nat) (l : List Int) (a : Nat) (e : Int) (m : Nat) (E : Ending) (w' : World) : Prop :=
  ∃ A' m' c', E = .returned (.slice A' m' c') ∧ RdI .u8 w' B A' m' (tkL l a e m) ∧ m' ≤ c' ∧ Psr w' B g A n c l (tkA l a e m) (tkF l a e m) ∧ Chg w w' (fun k => k = g)

theorem take_any (w : World) (B g n c a m : Nat) (A : Option Addr) (l : List Int) (e : Int) (h : Psr w B g A n c l a e) (hm : m ≤ 100000) :
    Calls Try.prog 19 #[ps g, .int .i64 m] w (TakePost w B g A n c l a e m) := by
  have c0 := h.cell.cell (i := 0) (by omega)
  have c1 := h.cell.cell (i := 1) (by omega)
  have c2 := h.cell.cell (i := 2) (by omega)
  have z1 := h.cell.frozen' (i := 1) (by omega)
  have z2 := h.cell.frozen' (i := 2) (by omega)
  unfold pf at c0 c1 c2
  have hgl := h.cell.lt
  have hle := h.le
  have hcap := h.cap
  have hsm := h.small
  have hI : (0 : Int) ≤ a ∧ (a : Int) ≤ n ∧ (n : Int) ≤ 1000000 ∧ (0 : Int) ≤ m ∧ (m : Int) ≤ 100000 := by omega
  have HN := Lib.hid h.rd.1
  unfold ps
  go_enter Try.func19, Try.ntmps19
  by_cases he0 : e = 0
  · subst he0
    by_cases hf : (n : Int) - (a : Int) < (m : Int)
    · have hF : tkF l a 0 m = 5 := by unfold tkF; rw [if_pos ⟨rfl, by rw [← HN.out]; omega⟩]
      have hL : tkL l a 0 m = [] := by unfold tkL; rw [hF, if_neg (by omega)]
      have hA : tkA l a 0 m = a := by unfold tkA; rw [hF, if_neg (by omega)]
      have HP : Hid (tkF l a 0 m = 5 ∧ tkL l a 0 m = [] ∧ tkA l a 0 m = a) := ⟨hF, hL, hA⟩
      clear hF hL hA
      go_wp2
      go_quiet (fail)
      go_wp2
      go_ret
      refine ⟨none, 0, 0, rfl, ?_, Nat.le_refl _, ?_, ((Chg.refl w (fun k => k = g)).drewN _).setCell (p := ⟨g, 2, none⟩) (.inl rfl) _⟩
      · rw [HP.out.2.1]; exact ⟨rfl, Rd.nil_⟩
      · rw [HP.out.1, HP.out.2.2]; exact (h.drewN _).fault 5
    · have hF : tkF l a 0 m = 0 := by unfold tkF; rw [if_neg (fun h => by rw [← HN.out] at h; omega)]
      have hL : tkL l a 0 m = (l.drop a).take m := by unfold tkL; rw [hF, if_pos rfl]
      have hA : tkA l a 0 m = a + m := by unfold tkA; rw [hF, if_pos rfl]
      have HP : Hid (tkF l a 0 m = 0 ∧ tkL l a 0 m = (l.drop a).take m ∧ tkA l a 0 m = a + m) := ⟨hF, hL, hA⟩
      clear hF hL hA
      have hk : a + m ≤ n := by omega
      obtain ⟨K, hK⟩ : ∃ K : Nat, a + m = K := ⟨_, rfl⟩
      have hrd := fun W (hW : RdI .u8 W B A n l) => rd_mid hW (i := a) (m := m) hk hcap
      have HPs := fun q => (h.drewN q).move (a' := a + m) hk
      have hKm : K - a = m := by omega
      rw [hK] at HP HPs hk
      have hw1 : IntKind.i64.wrap ((a : Int) + (m : Int)) = (K : Int) := by rw [IntWalk.i64_in _ (by omega)]; omega
      have hw2 : IntKind.i64.wrap ((K : Int) - (m : Int)) = (a : Int) := by rw [IntWalk.i64_in _ (by omega)]; omega
      obtain ⟨i0, hi, hz0, hz1, hz2⟩ := info_parts rbyte_info
      have hsl := run_slice_mid (P := Try.prog) 23 5 Try.underlying23 hi hz1 A n c (a := a) (b := K) (by omega) (by omega)
      rw [hKm] at hsl
      have HK := Lib.hid hK
      clear hi hz0 hz1 hz2 hK hKm
      go_wp2
      go_quiet (fail)
      go_wp2
      go_quiet (fail)
      go_wp2
      go_ret
      refine ⟨_, m, _, rfl, ?_, by omega, ?_, (((Chg.refl w (fun k => k = g)).drewN _).setCell (p := ⟨g, 1, none⟩) (.inl rfl) _).drewN _⟩
      · rw [HP.out.2.1]; exact hrd _ ((HPs _).drewN _).rd
      · rw [HP.out.1, HP.out.2.2]; exact (HPs _).drewN _
  · have hF : tkF l a e m = e := by unfold tkF; rw [if_neg (fun h => he0 h.1)]
    have hL : tkL l a e m = [] := by unfold tkL; rw [hF, if_neg he0]
    have hA : tkA l a e m = a := by unfold tkA; rw [hF, if_neg he0]
    have HP : Hid (tkF l a e m = e ∧ tkL l a e m = [] ∧ tkA l a e m = a) := ⟨hF, hL, hA⟩
    clear hF hL hA
    go_wp2
    go_quiet (fail)
    go_wp2
    go_ret
    refine ⟨none, 0, 0, rfl, ?_, Nat.le_refl _, ?_, (Chg.refl w _).drewN _⟩
    · rw [HP.out.2.1]; exact ⟨rfl, Rd.nil_⟩
    · rw [HP.out.1, HP.out.2.2]; exact h.drewN _

def UnitPost (w : World) (B g : Nat) (A : Option Addr) (n c : Nat) (l : List Int) (a' : Nat) (e' : Int) (v : Ending) (E : Ending) (w' : World) : Prop :=
  E = v ∧ Psr w' B g A n c l a' e' ∧ Chg w w' (fun k => k = g)
theorem tk_len (l : List Int) (a : Nat) (e : Int) (h : tkF l a e 1 = 0) : (tkL l a e 1).length = 1 ∧ ix (tkL l a e 1) 0 = ix l a := by
  unfold tkL
  rw [if_pos h]
  have : a < l.length := by unfold tkF at h; split at h <;> omega
  constructor
  · simp; omega
  · simp [ix]
theorem one_any (w : World) (B g n c a : Nat) (A : Option Addr) (l : List Int) (e : Int) (h : Psr w B g A n c l a e) :
    Calls Try.prog 17 #[ps g] w (UnitPost w B g A n c l (tkA l a e 1) (tkF l a e 1) (.returned (.int .u8 (onB l a e)))) := by
  have ht := fun W (hW : Psr W B g A n c l a e) => take_any W B g n c a 1 A l e hW (by omega)
  unfold ps at ht ⊢
  go_enter Try.func17, Try.ntmps17
  go_wp2_with fail
  refine (ht w h).mono ?_
  rintro E w1 ⟨A1, m1, c1, rfl, hr1, hmc, hp1, hc1⟩
  have c2 := hp1.cell.cell (i := 2) (by omega)
  unfold pf at c2
  have hL := tk_len l a e
  have hM := hr1.1
  obtain ⟨F, hF⟩ : ∃ F, tkF l a e 1 = F := ⟨_, rfl⟩
  rw [hF] at c2 hp1 hL
  have HF := Lib.hid hF
  clear hF
  by_cases hF0 : F = 0
  · subst hF0
    obtain ⟨hL1, hL2⟩ := hL rfl
    rw [hL1] at hM
    subst hM
    obtain ⟨ad, rfl, _, hcl⟩ := hr1.at_ (i := 0) (by omega)
    rw [hL2, show ad.add 0 = ad by simp [Addr.add]] at hcl
    go_wp2
    go_ret
    exact ⟨ret_int (by unfold onB; rw [HF.out, if_pos rfl]), by rw [HF.out]; exact hp1, hc1⟩
  · clear hM
    go_wp2
    go_ret
    exact ⟨ret_int (by unfold onB; rw [HF.out, if_neg hF0]), by rw [HF.out]; exact hp1, hc1⟩
theorem want_any (w : World) (B g n c a : Nat) (A : Option Addr) (l : List Int) (e : Int) (h : Psr w B g A n c l a e) (x : Int) :
    Calls Try.prog 16 #[ps g, .int .u8 x] w (UnitPost w B g A n c l (tkA l a e 1) (wtE l a e x) (.returned (.tuple #[]))) := by
  have ht := fun W (hW : Psr W B g A n c l a e) => take_any W B g n c a 1 A l e hW (by omega)
  unfold ps at ht ⊢
  go_enter Try.func16, Try.ntmps16
  go_wp2_with fail
  refine (ht w h).mono ?_
  rintro E w1 ⟨A1, m1, c1, rfl, hr1, hmc, hp1, hc1⟩
  have c2 := hp1.cell.cell (i := 2) (by omega)
  have z2 := hp1.cell.frozen' (i := 2) (by omega)
  unfold pf at c2
  have hL := tk_len l a e
  have hM := hr1.1
  obtain ⟨F, hF⟩ : ∃ F, tkF l a e 1 = F := ⟨_, rfl⟩
  rw [hF] at c2 hp1 hL
  have HF := Lib.hid hF
  clear hF
  by_cases hF0 : F = 0
  · subst hF0
    obtain ⟨hL1, hL2⟩ := hL rfl
    rw [hL1] at hM
    subst hM
    obtain ⟨ad, rfl, _, hcl⟩ := hr1.at_ (i := 0) (by omega)
    rw [hL2, show ad.add 0 = ad by simp [Addr.add]] at hcl
    by_cases hx : ix l a = x
    · rw [hx] at hcl
      have HE : Hid (wtE l a e x = 0) := by show _ = _; unfold wtE; rw [HF.out, if_neg (fun h => h.2 hx)]
      go_wp2
      refine bodyPost_ret (results_none rfl _ _ _) rfl ?_
      exact ⟨rfl, by rw [HE.out]; exact hp1, hc1⟩
    · have HE : Hid (wtE l a e x = 2) := by show _ = _; unfold wtE; rw [HF.out, if_pos ⟨rfl, hx⟩]
      go_wp2
      refine bodyPost_ret (results_none rfl _ _ _) rfl ?_
      exact ⟨rfl, by rw [HE.out]; exact hp1.fault 2, hc1.setCell (p := ⟨g, 2, none⟩) (.inl rfl) _⟩
  · clear hM
    have HE : Hid (wtE l a e x = F) := by show _ = _; unfold wtE; rw [HF.out, if_neg (fun h => hF0 h.1)]
    go_wp2
    refine bodyPost_ret (results_none rfl _ _ _) rfl ?_
    exact ⟨rfl, by rw [HE.out]; exact hp1, hc1⟩
end Go.Proofs.Ytgdmhicfeipbjaa
