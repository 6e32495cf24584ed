/-
  The walks of bits.Reader: NewReader, Left, Align, Feed.
-/
import Derived.Test.YtjeedkjgjfbndaaProg
import Derived.Test.YtjeedkjgjfbndaaPk
import Derived.Test.YtjeedkjgjfbndaaStep
import Derived.Deep.RegionLaw
namespace Go.Proofs.Ytjeedkjgjfbndaa
open Go.RowKit
set_option linter.unusedVariables false

theorem rbyte_info : (Try.prog.info? 5).map (fun i => (i.zero, i.size, i.bytes)) = some (some (.int .u8 0), 1, 1) := by kernel_rfl

def rf (A : Option Addr) (n c a : Nat) : Nat → Value
  | 0 => .slice A n c
  | _ => .int .i64 a
/-- The reader at block g holds the bytes B in the slice A n c, its own, and stands at bit a. -/
structure Rdr (w : World) (b0 g : Nat) (A : Option Addr) (n c : Nat) (B : List Int) (a : Nat) : Prop where
  cell : Ar w g 2 (rf A n c a)
  lo : b0 ≤ g
  own : OwnI .u8 w b0 5 A n c B
  apart : blkOf A ≠ some g
  by_ : ∀ x ∈ B, 0 ≤ x ∧ x < 256
  le : a ≤ 8 * B.length
section
variable {w w' : World} {b0 g n c a : Nat} {A : Option Addr} {B : List Int}
theorem Rdr.n_eq (h : Rdr w b0 g A n c B a) : n = B.length := h.own.1
theorem Rdr.chg {S : Nat → Prop} (h : Rdr w b0 g A n c B a) (hc : Chg w w' S) (hS : ∀ k, foot A g k → ¬ S k) : Rdr w' b0 g A n c B a :=
  ⟨hc.ar h.cell (hS g (.inl rfl)), h.lo, hc.ownI h.own fun q hq => hS q (.inr hq), h.apart, h.by_, h.le⟩
theorem Rdr.keeps (h : Rdr w b0 g A n c B a) (hb : Below w.heap.size w w') : Rdr w' b0 g A n c B a :=
  h.chg (S := fun _ => False) (Chg.of_below hb) fun _ _ => id
theorem Rdr.more {b1 : Nat} (h : Rdr w b0 g A n c B a) (hb : b1 ≤ b0) : Rdr w b1 g A n c B a := ⟨h.cell, Nat.le_trans hb h.lo, h.own.more hb, h.apart, h.by_, h.le⟩
theorem Rdr.drewN (h : Rdr w b0 g A n c B a) (q : Nat) : Rdr (w.drewN q) b0 g A n c B a := ⟨h.cell.drewN q, h.lo, h.own.drewN q, h.apart, h.by_, h.le⟩
theorem Rdr.foot_lo (h : Rdr w b0 g A n c B a) {k : Nat} (hk : foot A g k) : b0 ≤ k ∧ k < w.heap.size := by
  rcases hk with rfl | hk
  · exact ⟨h.lo, h.cell.lt⟩
  · exact h.own.2.lt hk
/-- the place moves -/
theorem Rdr.move (h : Rdr w b0 g A n c B a) {a' : Nat} (ha : a' ≤ 8 * B.length) {v : Value} (hv : v = .int .i64 a') : Rdr (w.setCell ⟨g, 1, none⟩ v) b0 g A n c B a' ∧ Chg w (w.setCell ⟨g, 1, none⟩ v) (fun k => k = g) :=
  ⟨⟨(h.cell.set_ (i := 1) (by omega) v).congr fun i hi => by
    obtain rfl | rfl : i = 0 ∨ i = 1 := by omega
    · rfl
    · rw [hv]; rfl, h.lo, h.own.far (p := ⟨g, 1, none⟩) h.apart _, h.apart, h.by_, ha⟩, (Chg.refl w (fun k => k = g)).setCell (p := ⟨g, 1, none⟩) (.inl rfl) _⟩
end

theorem rdrNew_any (w : World) : Calls Try.prog 19 #[] w fun e w' => ∃ g, e = .returned (.pointer (some ⟨g, 0, none⟩)) ∧ Rdr w' w.heap.size g none 0 0 [] 0 ∧ Below w.heap.size w w' := by
  go_enter Try.func19, Try.ntmps19
  go_wp2
  go_ret
  have hA : Ar (w.alloc (.cells #[.slice none 0 0, .int .i64 0] 44)) w.heap.size 2 (rf none 0 0 0) :=
    Ar.new w _ _ rfl fun i hi => by
      obtain rfl | rfl : i = 0 ∨ i = 1 := by omega
      all_goals rfl
  exact ⟨w.heap.size, rfl, ⟨hA, Nat.le_refl _, OwnI.nil_, by simp [blkOf], by simp, by simp⟩, (Below.refl _ _).alloc (Nat.le_refl _) _⟩
theorem rdrFeed_nil (w : World) (v : Value) : Calls Try.prog 11 #[.pointer none, v] w fun e w' => e = .returned (.tuple #[]) ∧ w = w' := by
  go_enter Try.func11, Try.ntmps11
  go_wp2
  refine bodyPost_ret (results_none rfl _ _ _) rfl ?_
  exact ⟨rfl, rfl⟩
theorem rdrLeft_nil (w : World) : Calls Try.prog 24 #[.pointer none] w fun e w' => e = .returned (.int .i64 0) ∧ w = w' := by
  go_enter Try.func24, Try.ntmps24
  go_wp2
  go_ret
  exact ⟨rfl, rfl⟩
set_option maxHeartbeats 1600000 in
theorem rdrLeft_any (w : World) (b0 g n c a : Nat) (A : Option Addr) (B : List Int) (hw : Rdr w b0 g A n c B a) (hlen : B.length ≤ 1000000000000) :
    Calls Try.prog 24 #[.pointer (some ⟨g, 0, none⟩)] w fun e w' => e = .returned (.int .i64 ((8 * n - a : Nat) : Int)) ∧ ∃ q, w' = w.drewN q := by
  have c0 := hw.cell.cell (i := 0) (by omega)
  have c1 := hw.cell.cell (i := 1) (by omega)
  unfold rf at c0 c1
  have hn := hw.n_eq
  have hle := hw.le
  have hnI : (n : Int) ≤ 1000000000000 ∧ (0 : Int) ≤ n ∧ (a : Int) ≤ 8 * (n : Int) ∧ (0 : Int) ≤ a := by omega
  have hsum : Hid ((8 * (n : Int) - (a : Int)) = ((8 * n - a : Nat) : Int)) := by show _ = _; omega
  have hw1 : IntKind.i64.wrap (8 * (n : Int)) = 8 * (n : Int) := by rw [IntWalk.i64_in _ (by omega)]
  have hw2 : IntKind.i64.wrap (8 * (n : Int) - (a : Int)) = 8 * (n : Int) - (a : Int) := by rw [IntWalk.i64_in _ (by omega)]
  clear hn hle
  go_enter Try.func24, Try.ntmps24
  go_wp2
  go_quiet (fail)
  go_wp2
  go_ret
  exact ⟨ret_int hsum.out, _, rfl⟩
def FeedPost (w : World) (b0 g : Nat) (B : List Int) (a : Nat) (e : Ending) (w' : World) : Prop :=
  ∃ A' n' c', e = .returned (.tuple #[]) ∧ Rdr w' b0 g A' n' c' B a ∧ Chg w w' (fun k => k = g) ∧ (∀ k, blkOf A' = some k → w.heap.size ≤ k)

set_option maxRecDepth 100000 in
set_option maxHeartbeats 4000000 in
theorem rdrFeed_any (w : World) (b0 g n c a Bd m d : Nat) (A C : Option Addr) (B b : List Int) (hw : Rdr w b0 g A n c B a) (hr : RdI .u8 w Bd C m b) (hB : Bd ≤ w.heap.size) (hby : ∀ x ∈ b, 0 ≤ x ∧ x < 256) (hlen : B.length + b.length ≤ 1000000000000) :
    Calls Try.prog 11 #[.pointer (some ⟨g, 0, none⟩), .slice C m d] w (FeedPost w b0 g (B.drop (a / 8) ++ b) (a % 8)) := by
  have c0 := hw.cell.cell (i := 0) (by omega)
  have c1 := hw.cell.cell (i := 1) (by omega)
  have z0 := hw.cell.frozen' (i := 0) (by omega)
  have z1 := hw.cell.frozen' (i := 1) (by omega)
  unfold rf at c0 c1
  have hgl := hw.cell.lt
  have hn := hw.n_eq
  have hm := hr.1
  have hle := hw.le
  have hcap := hw.own.2.capLe
  obtain ⟨i0, hi, hz0, hz1, hz2⟩ := info_parts rbyte_info
  obtain ⟨G, hG⟩ : ∃ G : Nat, a / 8 = G := ⟨_, rfl⟩
  have hGI : (a : Int) / 8 = (G : Int) := by omega
  obtain ⟨K, hK⟩ : ∃ K : Nat, n - G + m = K := ⟨_, rfl⟩
  have hGn : G ≤ n := by omega
  have hnI : (n : Int) ≤ 1000000000000 ∧ (m : Int) ≤ 1000000000000 ∧ (0 : Int) ≤ G ∧ (G : Int) ≤ n ∧ (0 : Int) ≤ m ∧ (0 : Int) ≤ a := by omega
  have hmk : ∀ W, (Instr.makeSlice 26 (.int .i64 0) (.int .i64 (K : Int))).run Try.prog W = .ok (.slice (some ⟨W.heap.size, 0, none⟩) 0 K) (W.alloc (.cells (zrow K (.int .u8 0)) 5)) := fun W => run_make_room (P := Try.prog) 26 5 i0 (.int .u8 0) Try.underlying26 hi hz0 hz1 rfl .i64 .i64 0 K (Nat.zero_le _) (by rw [hz2]; omega) (by omega) W
  have hsl := run_slice_from (P := Try.prog) 26 5 Try.underlying26 hi hz1 A n c hGn
  have hw1 : IntKind.i64.wrap ((n : Int) - (G : Int)) = ((n - G : Nat) : Int) := by rw [IntWalk.i64_in _ (by omega)]; omega
  have hw2 : IntKind.i64.wrap (((n - G : Nat) : Int) + (m : Int)) = (K : Int) := by rw [IntWalk.i64_in _ (by omega)]; omega
  have hrd := hw.own.rd.cutA hGn hcap
  obtain ⟨J, hJ⟩ : ∃ J : Nat, n - G = J := ⟨_, rfl⟩
  rw [hJ] at hsl hw1 hw2 hrd
  have Hi := Lib.hid hi
  have Hz0 := Lib.hid hz0
  have Hz1 := Lib.hid hz1
  have Hz2 := Lib.hid hz2
  have HG := Lib.hid hG
  have hJm : J + m ≤ 1000000000000 := by omega
  have hKm : K ≤ maxLen := by unfold maxLen; omega
  have hRm : Hid ((a : Int) % 8 = ((a % 8 : Nat) : Int)) := by show _ = _; omega
  have hae : a % 8 ≤ 8 * (B.drop (a / 8) ++ b).length := by rw [List.length_append, List.length_drop]; omega
  have hb0 : b0 ≤ w.heap.size := by have := hw.lo; omega
  clear hi hz0 hz1 hz2 hn hm hG hK hJ hle hcap
  go_enter Try.func11, Try.ntmps11
  go_wp2
  go_region_law
    (first
      | ((refine step_app .u8 b0 5 i0 1 rfl (.tmp 23) (.tmp 29) _ rfl Try.underlying26 Hi.out Hz0.out Hz1.out Hz2.out rfl (l := []) ⟨rfl, .inr ⟨_, _, rfl, hb0, heap_alloc_new w _, Nat.zero_le _, hKm, by rw [zrow_size, Nat.mul_one], fun i hi => by simp at hi⟩⟩ rfl (hrd.alloc (Nat.le_refl _) _) (by omega) (by omega) (by simp; omega) ?_)
         intro A5 c5 w5 hown5 hg5 hat5
         rw [Nat.zero_add, List.nil_append] at hown5
         have hr5 : RdI .u8 w5 Bd C m b := (hr.alloc hB (.cells (zrow K (.int .u8 0)) 5)).keep (fun p hp => World.cell?_of_block (hg5.block _ (by simp; omega) (by simp [blkOf]; omega)))
         have hb5 : b0 ≤ w5.heap.size := by have := hg5.size; simp at this; omega)
      | ((refine step_app .u8 b0 5 i0 1 rfl (.tmp 30) (.tmp 31) _ rfl Try.underlying26 Hi.out Hz0.out Hz1.out Hz2.out rfl hown5 rfl hr5 (by omega) (by omega) hb5 ?_)
         intro A6 c6 w6 hown6 hg6 hat6
         have hA5 : ∀ q, blkOf A5 = some q → w.heap.size ≤ q := fun q hq => by
           rcases hat5 with e | e
           · rw [e] at hq; simp [blkOf] at hq; omega
           · rw [e] at hq; simp at hq; omega
         have har6 := ((hw.cell.alloc (.cells (zrow K (.int .u8 0)) 5)).drew.grown hg5 (by simp [blkOf]; omega)).grown hg6 (fun e => by have := hA5 g e.symm; omega)
         have k06 : w6.cell? ⟨g, 0, none⟩ = some (.slice A n c) := har6.cell (i := 0) (by omega)
         have k16 : w6.cell? ⟨g, 1, none⟩ = some (.int .i64 a) := har6.cell (i := 1) (by omega)
         have z06 := har6.frozen' (i := 0) (by omega)
         have z16 := har6.frozen' (i := 1) (by omega)))
  all_goals
    go_wp2
    go_end0
    have hsz5 := hg5.size
    have hsz6 := hg6.size
    simp at hsz5
    have hA6 : ∀ q, blkOf A6 = some q → w.heap.size ≤ q := fun q hq => by
      rcases hat6 with e | e
      · exact hA5 q (e ▸ hq)
      · rw [e] at hq; injection hq with hq; omega
    have hap6 : blkOf A6 ≠ some g := fun e => by have := hA6 g e; omega
    refine ⟨A6, J + m, c6, rfl, ⟨((har6.set_ (i := 0) (by omega) _).set_ (i := 1) (by omega) _).congr fun i hi => ?_, hw.lo, ?_, hap6, ?_, hae⟩, ?_, hA6⟩
    · obtain rfl | rfl : i = 0 ∨ i = 1 := by omega
      · rfl
      · show Value.int .i64 ((a : Int) % 8) = Value.int .i64 ((a % 8 : Nat) : Int); rw [hRm.out]
    · rw [HG.out]
      exact (hown6.far (p := ⟨g, 0, none⟩) hap6 _).far (p := ⟨g, 1, none⟩) hap6 _
    · intro x hx
      rcases List.mem_append.1 hx with h | h
      · exact hw.by_ x (List.mem_of_mem_drop h)
      · exact hby x h
    · exact (((((Chg.refl w (fun k => k = g)).alloc _).drew).grown hg5 (fun q hq => by simp [blkOf] at hq; exact .inr (by omega))).grown hg6 (fun q hq => .inr (hA5 q hq))).setCell (p := ⟨g, 0, none⟩) (.inl rfl) _ |>.setCell (p := ⟨g, 1, none⟩) (.inl rfl) _
end Go.Proofs.Ytjeedkjgjfbndaa
