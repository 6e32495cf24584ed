/-
  The walks of coding's same and plain.
-/
import Derived.Test.YtlopmioamhendaaGreatProg
import Derived.Test.YtlopmioamhendaaGreatSlc
import Derived.Test.YtlopmioamhendaaGreatStep
import Derived.Handy
import Derived.BigRegion
namespace Go.Proofs.YtlopmioamhendaaGreat
open Go.RowKit
set_option linter.unusedVariables false

theorem sbyte_info : (Tryz.prog.info? 5).map (fun i => (i.zero, i.size, i.bytes)) = some (some (.int .u8 0), 1, 1) := by kernel_rfl
def smF (A : Option Addr) (n c : Nat) (most : Int) (ended : Bool) : Nat → Value
  | 0 => .slice A n c
  | 1 => .int .i64 most
  | _ => .bool ended
/-- what passes bytes as they are, at block g: the bytes l wait -/
structure SamM (w : World) (b0 g : Nat) (A : Option Addr) (n c : Nat) (l : List Int) (most : Int) (ended : Bool) : Prop where
  cell : Ar w g 3 (smF A n c most ended)
  lo : b0 ≤ g
  own : OwnI .u8 w b0 5 A n c l
  apart : blkOf A ≠ some g
section
variable {w w' : World} {b0 g n c : Nat} {A : Option Addr} {l : List Int} {most : Int} {ended : Bool}
theorem SamM.chg {S : Nat → Prop} (h : SamM w b0 g A n c l most ended) (hc : Chg w w' S) (hS : ∀ k, foot A g k → ¬ S k) : SamM w' b0 g A n c l most ended :=
  ⟨hc.ar h.cell (hS g (.inl rfl)), h.lo, hc.ownI h.own fun q hq => hS q (.inr hq), h.apart⟩
theorem SamM.keeps (h : SamM w b0 g A n c l most ended) (hb : Below w.heap.size w w') : SamM w' b0 g A n c l most ended :=
  h.chg (S := fun _ => False) (Chg.of_below hb) fun _ _ => id
end
def FeedS (w : World) (b0 g : Nat) (A : Option Addr) (l : List Int) (most : Int) (e : Ending) (w' : World) : Prop :=
  ∃ A' n' c', e = .returned (.tuple #[]) ∧ SamM w' b0 g A' n' c' l most false ∧ Chg w w' (foot A g) ∧ (blkOf A' = blkOf A ∨ blkOf A' = some w.heap.size)
set_option maxRecDepth 100000 in
theorem samFeed_any (w : World) (b0 g n c B m d : Nat) (A C : Option Addr) (l b : List Int) (most : Int) (h : SamM w b0 g A n c l most false) (hr : RdI .u8 w B C m b) (hB : b0 ≤ w.heap.size) (hn : n + m ≤ 1000000000) :
    Calls Tryz.prog 122 #[.pointer (some ⟨g, 0, none⟩), .slice C m d] w (FeedS w b0 g A (l ++ b) most) := by
  have c0 := h.cell.cell (i := 0) (by omega)
  have c2 := h.cell.cell (i := 2) (by omega)
  have z0 := h.cell.frozen' (i := 0) (by omega)
  unfold smF at c0 c2
  obtain ⟨i0, hi, hz0, hz1, hz2⟩ := info_parts sbyte_info
  have Hi := Lib.hid hi
  have Hz0 := Lib.hid hz0
  have Hz1 := Lib.hid hz1
  have Hz2 := Lib.hid hz2
  clear hi hz0 hz1 hz2
  have hgl := h.cell.lt
  go_enter Tryz.func122, Tryz.ntmps122
  go_wp2_with (at_builtin; (refine wpList_app .u8 b0 5 i0 1 rfl (.tmp 13) (.tmp 14) _ rfl Tryz.underlying22 Hi.out Hz0.out Hz1.out Hz2.out rfl h.own rfl hr (by omega) (by omega) hB ?_)
               intro A2 d2 w2 ho2 hg2 hat2
               have har := h.cell.grown hg2 (fun e => h.apart e.symm)
               have k0 : w2.cell? ⟨g, 0, none⟩ = some (.slice A n c) := har.cell (i := 0) (by omega)
               have y0 := har.frozen' (i := 0) (by omega))
  have hap : blkOf A2 ≠ some g := by
    rcases hat2 with e | e
    · rw [e]; exact h.apart
    · rw [e]; intro h9; injection h9 with h9; omega
  first
    | go_end0
    | go_returns
  refine ⟨A2, _, d2, rfl, ⟨(har.set_ (i := 0) (by omega) _).congr fun i hi => ?_, h.lo, ho2.far (p := ⟨g, 0, none⟩) hap _, hap⟩, ?_, hat2⟩
  · obtain rfl | rfl | rfl : i = 0 ∨ i = 1 ∨ i = 2 := by omega
    all_goals rfl
  · exact ((Chg.refl w (foot A g)).grown hg2 (fun k hk => .inl (.inr hk))).setCell (p := ⟨g, 0, none⟩) (.inl (.inl rfl)) _
theorem samEnd_any (w : World) (b0 g n c : Nat) (A : Option Addr) (l : List Int) (most : Int) (ended : Bool) (h : SamM w b0 g A n c l most ended) :
    Calls Tryz.prog 121 #[.pointer (some ⟨g, 0, none⟩)] w fun e w' => e = .returned (.tuple #[]) ∧ SamM w' b0 g A n c l most true ∧ Chg w w' (fun k => k = g) := by
  have c2 := h.cell.cell (i := 2) (by omega)
  have z2 := h.cell.frozen' (i := 2) (by omega)
  unfold smF at c2
  go_enter Tryz.func121, Tryz.ntmps121
  go_wp2_with fail
  first
    | go_end0
    | go_returns
  refine ⟨rfl, ⟨(h.cell.set_ (i := 2) (by omega) _).congr fun i hi => ?_, h.lo, h.own.far (p := ⟨g, 2, none⟩) h.apart _, h.apart⟩, (Chg.refl w (fun k => k = g)).setCell (p := ⟨g, 2, none⟩) (.inl rfl) _⟩
  obtain rfl | rfl | rfl : i = 0 ∨ i = 1 ∨ i = 2 := by omega
  all_goals rfl

def sTakeE (N K : Nat) (ended : Bool) : Int := if K = N then 0 else if 0 < K then 5 else if ended then 8 else 5
def TakeS (w : World) (b0 g : Nat) (l : List Int) (M N K : Nat) (ended : Bool) (e : Ending) (w' : World) : Prop :=
  ∃ Ao no co A' n' c', e = .returned (.tuple #[.slice Ao no co, .int .i64 (sTakeE N K ended)]) ∧ RdI .u8 w' w'.heap.size Ao no (l.take K) ∧ SamM w' b0 g A' n' c' (l.drop K) ((M : Int) - K) ended ∧ Chg w w' (fun k => k = g) ∧ no ≤ co ∧
    (∀ k, blkOf Ao = some k → w.heap.size ≤ k) ∧ (∀ k, blkOf A' = some k → w.heap.size ≤ k) ∧ (∀ k, blkOf Ao = some k → blkOf A' ≠ some k)
theorem sam_fin {w wq w2 w3 : World} {b0 g n c K J d2 d3 : Nat} {A A2 A3 : Option Addr} {l lt ld : List Int} {most m2 : Int} {ended : Bool} (hWQ : Chg w wq (fun _ => False)) (hSQ : wq.heap.size = w.heap.size) (hb2 : Below wq.heap.size wq w2) (hb3 : Below w2.heap.size w2 w3)
    (hS3 : SamM w3 b0 g A n c l most ended) (ho2 : OwnI .u8 w2 wq.heap.size 5 A2 K d2 lt) (ho3 : OwnI .u8 w3 w2.heap.size 5 A3 J d3 ld) (hg : g < wq.heap.size) (hB : b0 ≤ w.heap.size) :
    RdI .u8 ((w3.setCell ⟨g, 0, none⟩ (.slice A3 J d3)).setCell ⟨g, 1, none⟩ (.int .i64 m2)) ((w3.setCell ⟨g, 0, none⟩ (.slice A3 J d3)).setCell ⟨g, 1, none⟩ (.int .i64 m2)).heap.size A2 K lt ∧
    SamM ((w3.setCell ⟨g, 0, none⟩ (.slice A3 J d3)).setCell ⟨g, 1, none⟩ (.int .i64 m2)) b0 g A3 J d3 ld m2 ended ∧ Chg w ((w3.setCell ⟨g, 0, none⟩ (.slice A3 J d3)).setCell ⟨g, 1, none⟩ (.int .i64 m2)) (fun k => k = g) ∧ K ≤ d2 ∧
    (∀ k, blkOf A2 = some k → w.heap.size ≤ k) ∧ (∀ k, blkOf A3 = some k → w.heap.size ≤ k) ∧ (∀ k, blkOf A2 = some k → blkOf A3 ≠ some k) := by
  have s2 := hb2.size
  have s3 := hb3.size
  have l2 : ∀ k, blkOf A2 = some k → wq.heap.size ≤ k ∧ k < w2.heap.size := fun k hk => ho2.2.lt hk
  have l3 : ∀ k, blkOf A3 = some k → w2.heap.size ≤ k := fun k hk => (ho3.2.lt hk).1
  have a2 : blkOf A2 ≠ some g := fun e => by have := (l2 g e).1; omega
  have a3 : blkOf A3 ≠ some g := fun e => by have := l3 g e; omega
  have o2 := ((ho2.below hb3 (fun k hk => (l2 k hk).2)).far (p := ⟨g, 0, none⟩) a2 (.slice A3 J d3)).far (p := ⟨g, 1, none⟩) a2 (.int .i64 m2)
  refine ⟨o2.rd, ⟨((hS3.cell.set_ (i := 0) (by omega) _).set_ (i := 1) (by omega) _).congr fun i hi => ?_, hS3.lo, ((ho3.more (by omega)).far (p := ⟨g, 0, none⟩) a3 _).far (p := ⟨g, 1, none⟩) a3 _, a3⟩, ?_, ?_, fun k hk => by have := (l2 k hk).1; omega, fun k hk => by have := l3 k hk; omega, fun k hk e => by have := (l2 k hk).2; have := l3 k e; omega⟩
  · obtain rfl | rfl | rfl : i = 0 ∨ i = 1 ∨ i = 2 := by omega
    all_goals rfl
  · have hC : Chg w w3 (fun k => k = g) := (hWQ.more (fun _ h => h.elim)).trans (Chg.of_below (S := fun _ => False) (hb2.trans (hb3.mono s2))) (fun _ h => h.elim)
    exact (hC.setCell (p := ⟨g, 0, none⟩) (.inl rfl) _).setCell (p := ⟨g, 1, none⟩) (.inl rfl) _
  · rcases ho2.2 with ⟨_, h1, h2⟩ | ⟨_, _, _, _, _, h1, _⟩
    · omega
    · exact h1
set_option maxRecDepth 100000 in
set_option maxHeartbeats 2000000 in
theorem samTake_any (w : World) (b0 g n c M N K : Nat) (A : Option Addr) (l : List Int) (ended : Bool) (h : SamM w b0 g A n c l (M : Int) ended) (hB : b0 ≤ w.heap.size) (hn : n ≤ 1000000000) (hM : n ≤ M) (hM2 : (M : Int) ≤ 4611686018427387904) (hN : (N : Int) ≤ 1000000000) (hK : K = min N n) :
    Calls Tryz.prog 124 #[.pointer (some ⟨g, 0, none⟩), .int .i64 N] w (TakeS w b0 g l M N K ended) := by
  have c0 := h.cell.cell (i := 0) (by omega)
  have c1 := h.cell.cell (i := 1) (by omega)
  have c2 := h.cell.cell (i := 2) (by omega)
  have z0 := h.cell.frozen' (i := 0) (by omega)
  have z1 := h.cell.frozen' (i := 1) (by omega)
  unfold smF at c0 c1 c2
  obtain ⟨i0, hi, hz0, hz1, hz2⟩ := info_parts sbyte_info
  have hgl := h.cell.lt
  have hcap := h.own.2.capLe
  have hKn : K ≤ n ∧ K ≤ N := by omega
  have hKc : ((N : Int) ≤ n ∧ K = N) ∨ ((n : Int) < N ∧ K = n) := by omega
  have hnI : (0 : Int) ≤ n ∧ (n : Int) ≤ M ∧ (0 : Int) ≤ N ∧ (0 : Int) ≤ K ∧ (K : Int) ≤ M := by omega
  have HL := Lib.hid h.own.1
  have hs1 := run_slice_to (P := Tryz.prog) 22 5 Tryz.underlying22 hi hz1 A n c (j := K) (by omega)
  have hs2 := run_slice_from (P := Tryz.prog) 22 5 Tryz.underlying22 hi hz1 A n c (j := K) (by omega)
  have hr1 : RdI .u8 w w.heap.size A K (l.take K) := RdI.pre h.own.rd (by omega)
  have hr2 : RdI .u8 w w.heap.size (cutA A c K) (n - K) (l.drop K) := RdI.cutA h.own.rd (by omega) hcap
  obtain ⟨J, hJ⟩ : ∃ J, n - K = J := ⟨_, rfl⟩
  have HJ : Hid (J = n - K) := hJ.symm
  rw [hJ] at hs2 hr2
  have hJb : J ≤ 1000000000 := by omega
  have Hi := Lib.hid hi
  have Hz0 := Lib.hid hz0
  have Hz1 := Lib.hid hz1
  have Hz2 := Lib.hid hz2
  have hd : Hid ((M : Int) - K = ((M - K : Nat) : Int)) := by show _ = _; omega
  have HKK := Lib.hid hK
  clear hi hz0 hz1 hz2 hJ hK
  rcases hKc with ⟨hNn, rfl⟩ | ⟨hNn, rfl⟩
  · go_enter Tryz.func124, Tryz.ntmps124
    go_wp2_with fail
    go_quiet (fail)
    have hWQ : Chg w (w.drewN nq) (fun _ => False) := (Chg.refl w _).drewN nq
    have hSQ : Hid ((w.drewN nq).heap.size = w.heap.size) := rfl
    have hq := h.chg hWQ (fun _ _ => id)
    have hq1 := hr1.drewN nq
    have hq2 := hr2.drewN nq
    have hqg : g < (w.drewN nq).heap.size := hgl
    rw [← hSQ.out] at hq1 hq2
    revert hWQ hSQ hq hq1 hq2 hqg
    generalize w.drewN nq = wq
    intro hWQ hSQ hq hq1 hq2 hqg
    clear c0 c1 c2 z0 z1 hr1 hr2
    have c0 : wq.cell? ⟨g, 0, none⟩ = some (.slice A n c) := hq.cell.cell (i := 0) (by omega)
    go_wp2_with (first
      | (at_builtin; (refine wpList_app .u8 wq.heap.size 5 i0 1 rfl (.tmp 21) (.tmp 27) _ rfl Tryz.underlying22 Hi.out Hz0.out Hz1.out Hz2.out rfl (OwnI.lit rfl [] _ (Nat.le_refl _) (by simp)) rfl (hq1.alloc (Nat.le_refl _) _) (by simp; omega) (by omega) (by simp) ?_)
         intro A2 d2 w2 ho2 hg2 hat2
         simp only [List.nil_append, Nat.zero_add] at ho2
         have hb2 : Below wq.heap.size wq w2 := ((Below.refl _ wq).alloc (Nat.le_refl _) _).grown hg2 (by simp) (by simp [blkOf])
         have hS2 := hq.keeps hb2
         have k0 : w2.cell? ⟨g, 0, none⟩ = some (.slice A n c) := hS2.cell.cell (i := 0) (by omega)
         have hr3 := hq2.below hb2
         have hg2l := hS2.cell.lt
         have hsz2 := hb2.size)
      | (at_builtin; have _g := hsz2; (refine wpList_app .u8 w2.heap.size 5 i0 1 rfl (.tmp 30) (.tmp 36) _ rfl Tryz.underlying22 Hi.out Hz0.out Hz1.out Hz2.out rfl (OwnI.lit rfl [] _ (Nat.le_refl _) (by simp)) rfl (hr3.alloc (by omega) _) (by simp; omega) (by omega) (by simp) ?_)
         intro A3 d3 w3 ho3 hg3 hat3
         simp only [List.nil_append, Nat.zero_add] at ho3
         have hb3 : Below w2.heap.size w2 w3 := ((Below.refl _ w2).alloc (Nat.le_refl _) _).grown hg3 (by simp) (by simp [blkOf])
         have hS3 := hS2.keeps hb3
         have hg3l := hS3.cell.lt
         have e0 : w3.cell? ⟨g, 0, none⟩ = some (.slice A n c) := hS3.cell.cell (i := 0) (by omega)
         have e1 : w3.cell? ⟨g, 1, none⟩ = some (.int .i64 (M : Int)) := hS3.cell.cell (i := 1) (by omega)
         have e2 : w3.cell? ⟨g, 2, none⟩ = some (.bool ended) := hS3.cell.cell (i := 2) (by omega)
         have y0 := hS3.cell.frozen' (i := 0) (by omega)
         have y1 := hS3.cell.frozen' (i := 1) (by omega)
         have hsz3 := hb3.size))
    go_returns
    obtain ⟨f1, f2, f3, f4, f5, f6, f7⟩ := sam_fin (m2 := (M : Int) - K) hWQ hSQ.out hb2 hb3 hS3 ho2 ho3 hqg hB
    exact ⟨A2, K, d2, A3, J, d3, by unfold sTakeE; rw [if_pos rfl]; rfl, f1, f2, f3, f4, f5, f6, f7⟩
  · have hne : ¬ (K : Int) = N := by omega
    have hneq : ((K : Int) == (N : Int)) = false := by simp; omega
    have hJ0 : Hid (J = 0) := by show _ = _; have := HJ.out; omega
    have hnK : ¬ K = N := by omega
    have HnK := Lib.hid hnK
    clear hnK
    rcases Nat.eq_zero_or_pos K with hz | hz
    · have HZ := Lib.hid hz
      clear hz
      cases ended with
      | false =>
        go_enter Tryz.func124, Tryz.ntmps124
        go_wp2_with fail
        go_quiet (fail)
        have hWQ : Chg w (w.drewN nq) (fun _ => False) := (Chg.refl w _).drewN nq
        have hSQ : Hid ((w.drewN nq).heap.size = w.heap.size) := rfl
        have hq := h.chg hWQ (fun _ _ => id)
        have hq1 := hr1.drewN nq
        have hq2 := hr2.drewN nq
        have hqg : g < (w.drewN nq).heap.size := hgl
        rw [← hSQ.out] at hq1 hq2
        revert hWQ hSQ hq hq1 hq2 hqg
        generalize w.drewN nq = wq
        intro hWQ hSQ hq hq1 hq2 hqg
        clear c0 c1 c2 z0 z1 hr1 hr2
        have c0 : wq.cell? ⟨g, 0, none⟩ = some (.slice A K c) := hq.cell.cell (i := 0) (by omega)
        go_wp2_with (first
          | (at_builtin; (refine wpList_app .u8 wq.heap.size 5 i0 1 rfl (.tmp 21) (.tmp 27) _ rfl Tryz.underlying22 Hi.out Hz0.out Hz1.out Hz2.out rfl (OwnI.lit rfl [] _ (Nat.le_refl _) (by simp)) rfl (hq1.alloc (Nat.le_refl _) _) (by simp; omega) (by omega) (by simp) ?_)
             intro A2 d2 w2 ho2 hg2 hat2
             simp only [List.nil_append, Nat.zero_add] at ho2
             have hb2 : Below wq.heap.size wq w2 := ((Below.refl _ wq).alloc (Nat.le_refl _) _).grown hg2 (by simp) (by simp [blkOf])
             have hS2 := hq.keeps hb2
             have k0 : w2.cell? ⟨g, 0, none⟩ = some (.slice A K c) := hS2.cell.cell (i := 0) (by omega)
             have hr3 := hq2.below hb2
             have hg2l := hS2.cell.lt
             have hsz2 := hb2.size)
          | (at_builtin; have _g := hsz2; (refine wpList_app .u8 w2.heap.size 5 i0 1 rfl (.tmp 30) (.tmp 36) _ rfl Tryz.underlying22 Hi.out Hz0.out Hz1.out Hz2.out rfl (OwnI.lit rfl [] _ (Nat.le_refl _) (by simp)) rfl (hr3.alloc (by omega) _) (by simp; omega) (by omega) (by simp) ?_)
             intro A3 d3 w3 ho3 hg3 hat3
             simp only [List.nil_append, Nat.zero_add] at ho3
             have hb3 : Below w2.heap.size w2 w3 := ((Below.refl _ w2).alloc (Nat.le_refl _) _).grown hg3 (by simp) (by simp [blkOf])
             have hS3 := hS2.keeps hb3
             have hg3l := hS3.cell.lt
             have e0 : w3.cell? ⟨g, 0, none⟩ = some (.slice A K c) := hS3.cell.cell (i := 0) (by omega)
             have e1 : w3.cell? ⟨g, 1, none⟩ = some (.int .i64 (M : Int)) := hS3.cell.cell (i := 1) (by omega)
             have e2 : w3.cell? ⟨g, 2, none⟩ = some (.bool false) := hS3.cell.cell (i := 2) (by omega)
             have y0 := hS3.cell.frozen' (i := 0) (by omega)
             have y1 := hS3.cell.frozen' (i := 1) (by omega)
             have hsz3 := hb3.size))
        all_goals first | (exfalso; have hz1 := HZ.out; have hz2 := hJ0.out; omega) | skip
        go_returns
        have hz2 := hJ0.out
        subst hz2
        obtain ⟨f1, f2, f3, f4, f5, f6, f7⟩ := sam_fin (m2 := (M : Int) - K) hWQ hSQ.out hb2 hb3 hS3 ho2 ho3 hqg hB
        exact ⟨none, 0, 0, A3, 0, d3, by unfold sTakeE; rw [if_neg HnK.out, if_neg (by rw [HZ.out]; omega)]; rfl, ⟨by simp [HZ.out], Rd.nil_⟩, f2, f3, Nat.le_refl _, (fun k hk => by cases hk), f6, (fun k hk => by cases hk)⟩
      | true =>
        go_enter Tryz.func124, Tryz.ntmps124
        go_wp2_with fail
        go_quiet (fail)
        have hWQ : Chg w (w.drewN nq) (fun _ => False) := (Chg.refl w _).drewN nq
        have hSQ : Hid ((w.drewN nq).heap.size = w.heap.size) := rfl
        have hq := h.chg hWQ (fun _ _ => id)
        have hq1 := hr1.drewN nq
        have hq2 := hr2.drewN nq
        have hqg : g < (w.drewN nq).heap.size := hgl
        rw [← hSQ.out] at hq1 hq2
        revert hWQ hSQ hq hq1 hq2 hqg
        generalize w.drewN nq = wq
        intro hWQ hSQ hq hq1 hq2 hqg
        clear c0 c1 c2 z0 z1 hr1 hr2
        have c0 : wq.cell? ⟨g, 0, none⟩ = some (.slice A K c) := hq.cell.cell (i := 0) (by omega)
        go_wp2_with (first
          | (at_builtin; (refine wpList_app .u8 wq.heap.size 5 i0 1 rfl (.tmp 21) (.tmp 27) _ rfl Tryz.underlying22 Hi.out Hz0.out Hz1.out Hz2.out rfl (OwnI.lit rfl [] _ (Nat.le_refl _) (by simp)) rfl (hq1.alloc (Nat.le_refl _) _) (by simp; omega) (by omega) (by simp) ?_)
             intro A2 d2 w2 ho2 hg2 hat2
             simp only [List.nil_append, Nat.zero_add] at ho2
             have hb2 : Below wq.heap.size wq w2 := ((Below.refl _ wq).alloc (Nat.le_refl _) _).grown hg2 (by simp) (by simp [blkOf])
             have hS2 := hq.keeps hb2
             have k0 : w2.cell? ⟨g, 0, none⟩ = some (.slice A K c) := hS2.cell.cell (i := 0) (by omega)
             have hr3 := hq2.below hb2
             have hg2l := hS2.cell.lt
             have hsz2 := hb2.size)
          | (at_builtin; have _g := hsz2; (refine wpList_app .u8 w2.heap.size 5 i0 1 rfl (.tmp 30) (.tmp 36) _ rfl Tryz.underlying22 Hi.out Hz0.out Hz1.out Hz2.out rfl (OwnI.lit rfl [] _ (Nat.le_refl _) (by simp)) rfl (hr3.alloc (by omega) _) (by simp; omega) (by omega) (by simp) ?_)
             intro A3 d3 w3 ho3 hg3 hat3
             simp only [List.nil_append, Nat.zero_add] at ho3
             have hb3 : Below w2.heap.size w2 w3 := ((Below.refl _ w2).alloc (Nat.le_refl _) _).grown hg3 (by simp) (by simp [blkOf])
             have hS3 := hS2.keeps hb3
             have hg3l := hS3.cell.lt
             have e0 : w3.cell? ⟨g, 0, none⟩ = some (.slice A K c) := hS3.cell.cell (i := 0) (by omega)
             have e1 : w3.cell? ⟨g, 1, none⟩ = some (.int .i64 (M : Int)) := hS3.cell.cell (i := 1) (by omega)
             have e2 : w3.cell? ⟨g, 2, none⟩ = some (.bool true) := hS3.cell.cell (i := 2) (by omega)
             have y0 := hS3.cell.frozen' (i := 0) (by omega)
             have y1 := hS3.cell.frozen' (i := 1) (by omega)
             have hsz3 := hb3.size))
        all_goals first | (exfalso; have hz1 := HZ.out; have hz2 := hJ0.out; omega) | skip
        go_returns
        have hz2 := hJ0.out
        subst hz2
        obtain ⟨f1, f2, f3, f4, f5, f6, f7⟩ := sam_fin (m2 := (M : Int) - K) hWQ hSQ.out hb2 hb3 hS3 ho2 ho3 hqg hB
        exact ⟨none, 0, 0, A3, 0, d3, by unfold sTakeE; rw [if_neg HnK.out, if_neg (by rw [HZ.out]; omega)]; rfl, ⟨by simp [HZ.out], Rd.nil_⟩, f2, f3, Nat.le_refl _, (fun k hk => by cases hk), f6, (fun k hk => by cases hk)⟩
    · have hn0 : (0 : Int) < K := by omega
      go_enter Tryz.func124, Tryz.ntmps124
      go_wp2_with fail
      go_quiet (fail)
      have hWQ : Chg w (w.drewN nq) (fun _ => False) := (Chg.refl w _).drewN nq
      have hSQ : Hid ((w.drewN nq).heap.size = w.heap.size) := rfl
      have hq := h.chg hWQ (fun _ _ => id)
      have hq1 := hr1.drewN nq
      have hq2 := hr2.drewN nq
      have hqg : g < (w.drewN nq).heap.size := hgl
      rw [← hSQ.out] at hq1 hq2
      revert hWQ hSQ hq hq1 hq2 hqg
      generalize w.drewN nq = wq
      intro hWQ hSQ hq hq1 hq2 hqg
      clear c0 c1 c2 z0 z1 hr1 hr2
      have c0 : wq.cell? ⟨g, 0, none⟩ = some (.slice A K c) := hq.cell.cell (i := 0) (by omega)
      go_wp2_with (first
        | (at_builtin; (refine wpList_app .u8 wq.heap.size 5 i0 1 rfl (.tmp 21) (.tmp 27) _ rfl Tryz.underlying22 Hi.out Hz0.out Hz1.out Hz2.out rfl (OwnI.lit rfl [] _ (Nat.le_refl _) (by simp)) rfl (hq1.alloc (Nat.le_refl _) _) (by simp; omega) (by omega) (by simp) ?_)
           intro A2 d2 w2 ho2 hg2 hat2
           simp only [List.nil_append, Nat.zero_add] at ho2
           have hb2 : Below wq.heap.size wq w2 := ((Below.refl _ wq).alloc (Nat.le_refl _) _).grown hg2 (by simp) (by simp [blkOf])
           have hS2 := hq.keeps hb2
           have k0 : w2.cell? ⟨g, 0, none⟩ = some (.slice A K c) := hS2.cell.cell (i := 0) (by omega)
           have hr3 := hq2.below hb2
           have hg2l := hS2.cell.lt
           have hsz2 := hb2.size)
        | (at_builtin; have _g := hsz2; (refine wpList_app .u8 w2.heap.size 5 i0 1 rfl (.tmp 30) (.tmp 36) _ rfl Tryz.underlying22 Hi.out Hz0.out Hz1.out Hz2.out rfl (OwnI.lit rfl [] _ (Nat.le_refl _) (by simp)) rfl (hr3.alloc (by omega) _) (by simp; omega) (by omega) (by simp) ?_)
           intro A3 d3 w3 ho3 hg3 hat3
           simp only [List.nil_append, Nat.zero_add] at ho3
           have hb3 : Below w2.heap.size w2 w3 := ((Below.refl _ w2).alloc (Nat.le_refl _) _).grown hg3 (by simp) (by simp [blkOf])
           have hS3 := hS2.keeps hb3
           have hg3l := hS3.cell.lt
           have e0 : w3.cell? ⟨g, 0, none⟩ = some (.slice A K c) := hS3.cell.cell (i := 0) (by omega)
           have e1 : w3.cell? ⟨g, 1, none⟩ = some (.int .i64 (M : Int)) := hS3.cell.cell (i := 1) (by omega)
           have e2 : w3.cell? ⟨g, 2, none⟩ = some (.bool ended) := hS3.cell.cell (i := 2) (by omega)
           have y0 := hS3.cell.frozen' (i := 0) (by omega)
           have y1 := hS3.cell.frozen' (i := 1) (by omega)
           have hsz3 := hb3.size))
      go_returns
      obtain ⟨f1, f2, f3, f4, f5, f6, f7⟩ := sam_fin (m2 := (M : Int) - K) hWQ hSQ.out hb2 hb3 hS3 ho2 ho3 hqg hB
      exact ⟨A2, K, d2, A3, J, d3, by unfold sTakeE; rw [if_neg HnK.out, if_pos hz]; rfl, f1, f2, f3, f4, f5, f6, f7⟩

def plF (A : Option Addr) (n c : Nat) (done : Bool) : Nat → Value
  | 0 => .slice A n c
  | _ => .bool done
/-- what makes bytes as they are, at block g: the bytes l are there -/
structure PlnM (w : World) (b0 g : Nat) (A : Option Addr) (n c : Nat) (l : List Int) (done : Bool) : Prop where
  cell : Ar w g 2 (plF A n c done)
  lo : b0 ≤ g
  own : OwnI .u8 w b0 5 A n c l
  apart : blkOf A ≠ some g
section
variable {w w' : World} {b0 g n c : Nat} {A : Option Addr} {l : List Int} {done : Bool}
theorem PlnM.chg {S : Nat → Prop} (h : PlnM w b0 g A n c l done) (hc : Chg w w' S) (hS : ∀ k, foot A g k → ¬ S k) : PlnM w' b0 g A n c l done :=
  ⟨hc.ar h.cell (hS g (.inl rfl)), h.lo, hc.ownI h.own fun q hq => hS q (.inr hq), h.apart⟩
theorem PlnM.keeps (h : PlnM w b0 g A n c l done) (hb : Below w.heap.size w w') : PlnM w' b0 g A n c l done :=
  h.chg (S := fun _ => False) (Chg.of_below hb) fun _ _ => id
end
def WriteP (w : World) (b0 g : Nat) (A : Option Addr) (l : List Int) (e : Ending) (w' : World) : Prop :=
  ∃ A' n' c', e = .returned (.int .i64 0) ∧ PlnM w' b0 g A' n' c' l false ∧ Chg w w' (foot A g) ∧ (blkOf A' = blkOf A ∨ blkOf A' = some w.heap.size)
set_option maxRecDepth 100000 in
theorem plnWrite_any (w : World) (b0 g n c B m d : Nat) (A C : Option Addr) (l b : List Int) (h : PlnM w b0 g A n c l false) (hr : RdI .u8 w B C m b) (hB : b0 ≤ w.heap.size) (hn : n + m ≤ 1000000000) :
    Calls Tryz.prog 196 #[.pointer (some ⟨g, 0, none⟩), .slice C m d] w (WriteP w b0 g A (l ++ b)) := by
  have c0 := h.cell.cell (i := 0) (by omega)
  have c1 := h.cell.cell (i := 1) (by omega)
  have z0 := h.cell.frozen' (i := 0) (by omega)
  unfold plF at c0 c1
  obtain ⟨i0, hi, hz0, hz1, hz2⟩ := info_parts sbyte_info
  have Hi := Lib.hid hi
  have Hz0 := Lib.hid hz0
  have Hz1 := Lib.hid hz1
  have Hz2 := Lib.hid hz2
  clear hi hz0 hz1 hz2
  have hgl := h.cell.lt
  go_enter Tryz.func196, Tryz.ntmps196
  go_wp2_with (at_builtin; (refine wpList_app .u8 b0 5 i0 1 rfl (.tmp 13) (.tmp 14) _ rfl Tryz.underlying22 Hi.out Hz0.out Hz1.out Hz2.out rfl h.own rfl hr (by omega) (by omega) hB ?_)
               intro A2 d2 w2 ho2 hg2 hat2
               have har := h.cell.grown hg2 (fun e => h.apart e.symm)
               have k0 : w2.cell? ⟨g, 0, none⟩ = some (.slice A n c) := har.cell (i := 0) (by omega)
               have y0 := har.frozen' (i := 0) (by omega))
  have hap : blkOf A2 ≠ some g := by
    rcases hat2 with e | e
    · rw [e]; exact h.apart
    · rw [e]; intro h9; injection h9 with h9; omega
  go_ret
  refine ⟨A2, _, d2, rfl, ⟨(har.set_ (i := 0) (by omega) _).congr fun i hi => ?_, h.lo, ho2.far (p := ⟨g, 0, none⟩) hap _, hap⟩, ?_, hat2⟩
  · obtain rfl | rfl : i = 0 ∨ i = 1 := by omega
    all_goals rfl
  · exact ((Chg.refl w (foot A g)).grown hg2 (fun k hk => .inl (.inr hk))).setCell (p := ⟨g, 0, none⟩) (.inl (.inl rfl)) _
theorem plnClose_any (w : World) (b0 g n c : Nat) (A : Option Addr) (l : List Int) (h : PlnM w b0 g A n c l false) :
    Calls Tryz.prog 193 #[.pointer (some ⟨g, 0, none⟩)] w fun e w' => e = .returned (.int .i64 0) ∧ PlnM w' b0 g A n c l true ∧ Chg w w' (fun k => k = g) := by
  have c1 := h.cell.cell (i := 1) (by omega)
  have z1 := h.cell.frozen' (i := 1) (by omega)
  unfold plF at c1
  go_enter Tryz.func193, Tryz.ntmps193
  go_wp2_with fail
  go_ret
  refine ⟨rfl, ⟨(h.cell.set_ (i := 1) (by omega) _).congr fun i hi => ?_, h.lo, h.own.far (p := ⟨g, 1, none⟩) h.apart _, h.apart⟩, (Chg.refl w (fun k => k = g)).setCell (p := ⟨g, 1, none⟩) (.inl rfl) _⟩
  obtain rfl | rfl : i = 0 ∨ i = 1 := by omega
  all_goals rfl
theorem plnTake_any (w : World) (b0 g n c : Nat) (A : Option Addr) (l : List Int) (done : Bool) (h : PlnM w b0 g A n c l done) :
    Calls Tryz.prog 195 #[.pointer (some ⟨g, 0, none⟩)] w fun e w' => e = .returned (.slice A n c) ∧ OwnI .u8 w' b0 5 A n c l ∧ PlnM w' b0 g none 0 0 [] done ∧ Chg w w' (fun k => k = g) := by
  have c0 := h.cell.cell (i := 0) (by omega)
  have z0 := h.cell.frozen' (i := 0) (by omega)
  unfold plF at c0
  go_enter Tryz.func195, Tryz.ntmps195
  go_wp2_with fail
  go_ret
  refine ⟨rfl, h.own.far (p := ⟨g, 0, none⟩) h.apart _, ⟨(h.cell.set_ (i := 0) (by omega) _).congr fun i hi => ?_, h.lo, OwnI.nil_, by simp [blkOf]⟩, (Chg.refl w (fun k => k = g)).setCell (p := ⟨g, 0, none⟩) (.inl rfl) _⟩
  obtain rfl | rfl : i = 0 ∨ i = 1 := by omega
  all_goals rfl
end Go.Proofs.YtlopmioamhendaaGreat
