/-
  The walks of the statements' own text and answers, layer 09.
-/
import Derived.Test.YtlnmicocmbdbdaaFndH
import Derived.Test.YtlnmicocmbdbdaaFndR
import Derived.Lib.SlBytesConst
namespace Go.Proofs.Ytlnmicocmbdbdaa
open Go.RowKit
set_option linter.unusedVariables false

theorem OwnT.below {w w' : World} {b0 n c B : Nat} {A : Option Addr} {l : List Tok} (h : OwnT w b0 A n c l) (hb : Below B w w') (hB : w.heap.size ≤ B) : OwnT w' b0 A n c l := ⟨h.1, h.2.below hb fun g hg => Nat.lt_of_lt_of_le (h.2.lt hg).2 hB⟩
theorem RdI.litf (k : IntKind) {w : World} {g : Nat} (hg : g = w.heap.size) (l : List Int) (t : TypeId) (fr : Nat × Nat) : RdI k (w.alloc (.cells (l.map (Value.int k)).toArray t fr)) (g + 1) (some ⟨g, 0, none⟩) l.length l := by
  subst hg
  refine ⟨rfl, fun _ => ⟨_, rfl, by simp, fun i hi => ?_⟩⟩
  have : (⟨w.heap.size, 0, none⟩ : Addr).add i = ⟨w.heap.size, i, none⟩ := by unfold Addr.add; split <;> simp_all
  rw [this, cell_of_row _ _ _ _ _ _ (heap_alloc_new w _)]
  simp [ix, hi]
set_option maxHeartbeats 1600000 in
theorem answers9_any (w : World) : Calls Try.prog 8 #[] w fun e w' => e = .returned (.bool true) ∧ Below w.heap.size w w' := by
  have kc := fun (w : World) (C : Array Value) (n c : Nat) => Lib.run_convert_bytes_const (P := Try.prog) w 22 5 C n c Try.underlying22 Try.underlying5
  go_enter Try.func8, Try.ntmps8
  go_wp2_with fail
  refine (mtok_any 6 _ (by decide) (RdI.litf .u8 rfl [97, 97] 5 _) (by simp) (by decide) (by decide)).mono ?_
  rintro r w1 ⟨l, st', A, n, c, rfl, hrun, hend, ho, hb⟩
  have hl := run_aa hrun hend
  subst hl
  have hb1 : Below w.heap.size w w1 := ((Below.refl _ w).alloc (Nat.le_refl _) _).trans (hb.mono (by simp))
  have hn := ho.1
  obtain ⟨g, rfl⟩ := ho.2.addr (by rw [hn]; decide)
  have c0 := ho.2.cell (i := 0) (by rw [hn]; decide)
  replace c0 : w1.cell? ⟨g, 0, none⟩ = some (.int .u8 97) := c0
  have hn2 : n = 2 := hn
  subst hn2
  clear hn ho hrun hend
  go_wp2_with fail
  go_ret
  exact ⟨rfl, hb1⟩
/-- b, so many times -/
def reps (b : List Int) : Nat → List Int
  | 0 => []
  | k + 1 => reps b k ++ b
def TextRel (w : World) (b : List Int) (turn : Int) (m : Nat) (o i : Value) (wr : World) : Prop :=
  ∃ (k n c : Nat) (A : Option Addr) (x : List Int), k ≤ m + 1 ∧ i = .int .i64 k ∧ o = .slice A n c ∧ OwnI .u8 wr w.heap.size 5 A n c x ∧ Hid (n = k * b.length) ∧ (∀ v ∈ x, 0 ≤ v ∧ v < 256) ∧ Hid (turn % 2 = 0 → x = reps b k) ∧ Below w.heap.size w wr
def TextPost (w : World) (b : List Int) (times turn : Int) (r : Ending) (w' : World) : Prop :=
  ∃ (n c : Nat) (A : Option Addr) (x : List Int), r = .returned (.slice A n c) ∧ OwnI .u8 w' w.heap.size 5 A n c x ∧ n = ((times % 40).toNat + 1) * b.length ∧ (∀ v ∈ x, 0 ≤ v ∧ v < 256) ∧ (turn % 2 = 0 → x = reps b ((times % 40).toNat + 1)) ∧ Below w.heap.size w w'
theorem xor_u8 (a b : Int) : 0 ≤ bits .xor .u8 a b ∧ bits .xor .u8 a b < 256 := by
  show 0 ≤ IntKind.u8.wrap _ ∧ IntKind.u8.wrap _ < 256
  rw [IntKind.wrap_u8]
  omega
set_option maxRecDepth 100000 in
set_option maxHeartbeats 4000000 in
theorem text_any (w : World) (A : Option Addr) (n c B : Nat) (b : List Int) (times turn : Int) (hr : RdI .u8 w B A n b) (hB : B ≤ w.heap.size) (hn : (n : Int) ≤ 500) (hby : ∀ v ∈ b, 0 ≤ v ∧ v < 256) (ht : 0 ≤ times ∧ times < 256) (hu : 0 ≤ turn ∧ turn < 256) :
    Calls Try.prog 9 #[.slice A n c, .int .u8 times, .int .u8 turn] w (TextPost w b times turn) := by
  obtain ⟨i0, hi, hz0, hz1, hz2⟩ := info_parts fbyte2_info
  have Hi := Lib.hid hi
  have Hz0 := Lib.hid hz0
  have Hz1 := Lib.hid hz1
  have Hz2 := Lib.hid hz2
  clear hi hz0 hz1 hz2
  have HN := Lib.hid hr.1
  obtain ⟨m, hm⟩ : ∃ m, (times % 40).toNat = m := ⟨_, rfl⟩
  have hm2 : times % 40 = (m : Int) := by omega
  have hm3 : times.tmod 40 = (m : Int) := by rw [Int.tmod_eq_emod_of_nonneg ht.1, hm2]
  have hmb : (0 : Int) ≤ m ∧ (m : Int) ≤ 39 := by omega
  obtain ⟨u, hu2⟩ : ∃ u, turn % 2 = u := ⟨_, rfl⟩
  have hu3 : turn.tmod 2 = u := by rw [Int.tmod_eq_emod_of_nonneg hu.1, hu2]
  have hub : 0 ≤ u ∧ u ≤ 1 := by omega
  have HM := Lib.hid hm
  have HU := Lib.hid hu2
  clear hm
  go_enter Try.func9, Try.ntmps9
  go_wp2_with fail
  go_loopw [7, 8] (TextRel w b turn m) (fun _ i _ => m + 1 - (intOf i).toNat)
  case atStart => exact ⟨0, 0, 0, none, [], Nat.zero_le _, rfl, rfl, OwnI.nil_, by show _ = _; simp, (fun v hv => by cases hv), (fun _ => rfl), Below.refl _ _⟩
  case round =>
    obtain ⟨k, n1, c1, A1, x, hk, rfl, rfl, ho, hn1, hxb, hre, hb⟩ := hrel
    by_cases hlt : k ≤ m
    · have hkI : (k : Int) ≤ (m : Int) ∧ (0 : Int) ≤ k ∧ (k : Int) ≤ 39 := by omega
      have hn1b : n1 ≤ 20000 := by
        have h5 : k * b.length ≤ 40 * 500 := Nat.mul_le_mul (by omega) (by have := HN.out; omega)
        have := hn1.out; omega
      have hrw := hr.keep (w' := wr) (fun p hp => hb.cell (by omega))
      have hn2 : Hid (n1 + n = (k + 1) * b.length) := by show _ = _; rw [Nat.succ_mul, hn1.out, HN.out]
      by_cases hodd : u = 1
      · by_cases hn0 : 0 < n
        · obtain ⟨j, hj⟩ : ∃ j, k % n = j := ⟨_, rfl⟩
          have hjn : j < n := by rw [← hj]; exact Nat.mod_lt _ hn0
          have hjI : (k : Int) % (n : Int) = (j : Int) := by rw [← hj]; simp
          have hjt : (k : Int).tmod (n : Int) = (j : Int) := by rw [Int.tmod_eq_emod_of_nonneg (by omega), hjI]
          obtain ⟨q, hq⟩ : ∃ q, n1 + n - 1 - j = q := ⟨_, rfl⟩
          have hqI : (n1 : Int) + (n : Int) - 1 - (j : Int) = (q : Int) := by omega
          have hqb : q < n1 + n := by omega
          have hqI2 : (0 : Int) ≤ q ∧ (q : Int) < (n1 : Int) + (n : Int) := by omega
          have hnI : (0 : Int) < (n : Int) ∧ (n1 : Int) + (n : Int) ≤ 20500 ∧ (0 : Int) ≤ n1 ∧ (0 : Int) ≤ (j : Int) ∧ (j : Int) < (n : Int) := by omega
          have hnz : ((n : Int) == 0) = false := by simp; omega
          subst hodd
          clear hj hq hjn
          go_wp2_with (at_builtin; (refine wpList_app .u8 w.heap.size 5 i0 1 rfl (.tmp 16) (.tmp 17) _ rfl Try.underlying22 Hi.out Hz0.out Hz1.out Hz2.out rfl ho rfl hrw (by omega) (by omega) hb.size ?_)
                       intro A4 d4 w4 hown4 hg4 hat4
                       obtain ⟨g4, rfl⟩ := hown4.2.addr (by omega)
                       have cq := hown4.2.cell (i := q) (by omega)
                       have zq := hown4.2.frozen q)
          have hxb2 := xor_u8 (ix (x ++ b) q) k
          have ho5 := OwnI.set_ hown4 hqb (bits .xor .u8 (ix (x ++ b) q) k)
          have HU1 := HU.out
          go_roundw
          case rel => exact ⟨k + 1, n1 + n, d4, some ⟨g4, 0, none⟩, (x ++ b).set q (bits .xor .u8 (ix (x ++ b) q) k), by omega, by go_num, rfl, ho5, hn2, (fun v hv => by
            rcases List.mem_or_eq_of_mem_set hv with h | h
            · rcases List.mem_append.1 h with h | h
              · exact hxb v h
              · exact hby v h
            · rw [h]; exact hxb2), (fun h => by omega), (hb.grown hg4 hb.size fun q hq => (ho.2.lt hq).1).setCell (hown4.2.lt (g := g4) rfl).1 _⟩
          case measure => simp [intOf]; omega
        · obtain rfl : n = 0 := by omega
          subst hodd
          have hbn : Hid (b = []) := List.eq_nil_of_length_eq_zero HN.out.symm
          go_wp2_with (at_builtin; (refine wpList_app .u8 w.heap.size 5 i0 1 rfl (.tmp 16) (.tmp 17) _ rfl Try.underlying22 Hi.out Hz0.out Hz1.out Hz2.out rfl ho rfl hrw (by omega) (by omega) hb.size ?_)
                       intro A4 d4 w4 hown4 hg4 hat4)
          go_roundw
          case rel => exact ⟨k + 1, n1 + 0, d4, A4, x ++ b, by omega, by go_num, rfl, hown4, hn2, (fun v hv => by
            rcases List.mem_append.1 hv with h | h
            · exact hxb v h
            · exact hby v h), (fun h => by rw [reps, ← hre.out h]), hb.grown hg4 hb.size fun q hq => (ho.2.lt hq).1⟩
          case measure => simp [intOf]; omega
      · obtain rfl : u = 0 := by omega
        go_wp2_with (at_builtin; (refine wpList_app .u8 w.heap.size 5 i0 1 rfl (.tmp 16) (.tmp 17) _ rfl Try.underlying22 Hi.out Hz0.out Hz1.out Hz2.out rfl ho rfl hrw (by omega) (by omega) hb.size ?_)
                     intro A4 d4 w4 hown4 hg4 hat4)
        go_roundw
        case rel => exact ⟨k + 1, n1 + n, d4, A4, x ++ b, by omega, by go_num, rfl, hown4, hn2, fun v hv => (by
          rcases List.mem_append.1 hv with h | h
          · exact hxb v h
          · exact hby v h), fun h => by rw [reps, ← hre.out h], hb.grown hg4 hb.size fun q hq => (ho.2.lt hq).1⟩
        case measure => simp [intOf]; omega
    · obtain rfl : k = m + 1 := by omega
      have hkI : ((m + 1 : Nat) : Int) = (m : Int) + 1 := by omega
      go_wp2_with fail
      go_ret
      exact ⟨n1, c1, A1, x, rfl, ho, by rw [HM.out]; exact hn1.out, hxb, fun h => by rw [HM.out]; exact hre.out h, hb⟩
end Go.Proofs.Ytlnmicocmbdbdaa
