/-
  The walks of package window: New, Len, Add.
-/
import Derived.Test.YtjeedkjgjfbndaaProg
import Derived.Test.YtjeedkjgjfbndaaPk
namespace Go.Proofs.Ytjeedkjgjfbndaa
open Go.RowKit
set_option linter.unusedVariables false

theorem wbyte_info : (Try.prog.info? 5).map (fun i => (i.zero, i.size, i.bytes)) = some (some (.int .u8 0), 1, 1) := by kernel_rfl

/-- The window at block g holds the slice A n c, its own, that reads as l. -/
structure Win (w : World) (b0 g : Nat) (A : Option Addr) (n c : Nat) (l : List Int) : Prop where
  cell : Ar w g 1 (fun _ => .slice A n c)
  lo : b0 ≤ g
  own : OwnI .u8 w b0 5 A n c l
  apart : blkOf A ≠ some g
  len : l.length ≤ 65536
theorem Win.n_eq {w : World} {b0 g n c : Nat} {A : Option Addr} {l : List Int} (h : Win w b0 g A n c l) : n = l.length := h.own.1
theorem Win.chg {w w' : World} {b0 g n c : Nat} {A : Option Addr} {l : List Int} {S : Nat → Prop} (h : Win w b0 g A n c l) (hc : Chg w w' S) (hS : ∀ k, foot A g k → ¬ S k) : Win w' b0 g A n c l :=
  ⟨hc.ar h.cell (hS g (.inl rfl)), h.lo, hc.ownI h.own fun q hq => hS q (.inr hq), h.apart, h.len⟩
theorem Win.keeps {w w' : World} {b0 g n c : Nat} {A : Option Addr} {l : List Int} (h : Win w b0 g A n c l) (hb : Below w.heap.size w w') : Win w' b0 g A n c l :=
  h.chg (S := fun _ => False) (Chg.of_below hb) fun _ _ => id
theorem Win.foot_lo {w : World} {b0 g n c : Nat} {A : Option Addr} {l : List Int} (h : Win w b0 g A n c l) {k : Nat} (hk : foot A g k) : b0 ≤ k ∧ k < w.heap.size := by
  rcases hk with rfl | hk
  · exact ⟨h.lo, h.cell.lt⟩
  · exact h.own.2.lt hk

theorem winNew_any (w : World) : Calls Try.prog 20 #[] w fun e w' => ∃ g, e = .returned (.pointer (some ⟨g, 0, none⟩)) ∧ Win w' w.heap.size g none 0 0 [] ∧ Below w.heap.size w w' := by
  go_enter Try.func20, Try.ntmps20
  go_wp2
  go_ret
  have hA : Ar (w.alloc (.cells #[.slice none 0 0] 58)) w.heap.size 1 (fun _ => .slice none 0 0) :=
    Ar.new w #[.slice none 0 0] _ rfl fun i hi => by
      obtain rfl : i = 0 := by omega
      rfl
  exact ⟨w.heap.size, rfl, ⟨hA, Nat.le_refl _, OwnI.nil_, by simp [blkOf], by simp⟩, (Below.refl _ _).alloc (Nat.le_refl _) _⟩

theorem winLen_any (w : World) (b0 g n c : Nat) (A : Option Addr) (l : List Int) (hw : Win w b0 g A n c l) :
    Calls Try.prog 51 #[.pointer (some ⟨g, 0, none⟩)] w fun e w' => e = .returned (.int .i64 ((min n 32768 : Nat) : Int)) ∧ w = w' := by
  have c0 := hw.cell.cell (i := 0) (by omega)
  have hn : (n : Int) ≤ 65536 := by have := hw.len; have := hw.n_eq; omega
  by_cases h : (n : Int) ≤ 32768
  · have e : Hid (((min n 32768 : Nat) : Int) = (n : Int)) := by show _ = _; omega
    have h2 : ¬ (32768 : Int) < n := by omega
    go_enter Try.func51, Try.ntmps51
    go_wp2
    go_ret
    exact ⟨ret_int e.out.symm, rfl⟩
  · have e : Hid (((min n 32768 : Nat) : Int) = 32768) := by show _ = _; omega
    have h2 : (32768 : Int) < n := by omega
    go_enter Try.func51, Try.ntmps51
    go_wp2
    go_ret
    exact ⟨ret_int e.out.symm, rfl⟩
theorem winLen_nil (w : World) : Calls Try.prog 51 #[.pointer none] w fun e w' => e = .returned (.int .i64 0) ∧ w = w' := by
  go_enter Try.func51, Try.ntmps51
  go_wp2
  go_ret
  exact ⟨rfl, rfl⟩
theorem winAdd_nil (w : World) (v : Value) : Calls Try.prog 39 #[.pointer none, v] w fun e w' => e = .returned (.tuple #[]) ∧ w = w' := by
  go_enter Try.func39, Try.ntmps39
  go_wp2
  refine bodyPost_ret (results_none rfl _ _ _) rfl ?_
  exact ⟨rfl, rfl⟩

def AddPost (w : World) (b0 g : Nat) (A : Option Addr) (l b : List Int) (e : Ending) (w' : World) : Prop :=
  ∃ A' n' c', e = .returned (.tuple #[]) ∧ Win w' b0 g A' n' c' (addL l b) ∧ Chg w w' (foot A g) ∧ (∀ k, blkOf A' = some k → blkOf A = some k ∨ w.heap.size ≤ k)

set_option maxRecDepth 100000 in
set_option maxHeartbeats 4000000 in
theorem winAdd_any (w : World) (b0 g n c B m d : Nat) (A C : Option Addr) (l b : List Int) (hw : Win w b0 g A n c l) (hr : RdI .u8 w B C m b) (hB : B ≤ w.heap.size) (hm : (m : Int) ≤ 1000000) :
    Calls Try.prog 39 #[.pointer (some ⟨g, 0, none⟩), .slice C m d] w (AddPost w b0 g A l b) := by
  have c0 := hw.cell.cell (i := 0) (by omega)
  have z0 := hw.cell.frozen' (i := 0) (by omega)
  have hgl := hw.cell.lt
  have hb0 : b0 ≤ w.heap.size := Nat.le_trans hw.lo (Nat.le_of_lt hgl)
  have hn : (n : Int) ≤ 65536 := by have := hw.len; have := hw.n_eq; omega
  obtain ⟨i0, hi, hz0, hz1, hz2⟩ := info_parts wbyte_info
  have Hi := Lib.hid hi
  have Hz0 := Lib.hid hz0
  have Hz1 := Lib.hid hz1
  have Hz2 := Lib.hid hz2
  clear hi hz0 hz1 hz2
  have hln : l.length + b.length = n + m := by rw [hw.n_eq, hr.1]
  by_cases hbig : (65536 : Int) < (n : Int) + (m : Int)
  · go_enter Try.func39, Try.ntmps39
    go_wp2_with (first
      | (at_builtin; (refine wpList_app .u8 b0 5 i0 1 rfl (.tmp 11) (.tmp 12) _ rfl Try.underlying26 Hi.out Hz0.out Hz1.out Hz2.out rfl hw.own rfl hr (by omega) (by omega) hb0 ?_)
         intro A2 c2 w2 hown hg hat
         have ac2 := hw.cell.grown hg (fun e => hw.apart e.symm)
         have cc2 := ac2.cell (i := 0) (by omega)
         have zz2 := ac2.frozen' (i := 0) (by omega)
         obtain ⟨g2, rfl⟩ := hown.2.addr (by omega)
         have hgl2 : g < w2.heap.size := ac2.lt
         have ac3 := (ac2.set_ (i := 0) (by omega) (.slice (some ⟨g2, 0, none⟩) (n + m) c2)).alloc (.cells #[] 5)
         have cc3 := ac3.cell (i := 0) (by omega)
         rw [upd_same] at cc3
         have hcap := hown.2.capLe
         have hap2 : blkOf (some (⟨g2, 0, none⟩ : Addr)) ≠ some g := by
           rcases hat with e | e
           · rw [e]; exact hw.apart
           · rw [e]; simp; omega
         have own3 := (hown.far (p := ⟨g, 0, none⟩) hap2 (.slice (some ⟨g2, 0, none⟩) (n + m) c2)).alloc (.cells #[] 5)
         have rd3 := (own3.rd.cut (j := n + m - 32768) (by omega) (A' := some ⟨g2, n + m - 32768, none⟩) (fun _ => by rw [Option.map_some, addr0])))
      | (at_builtin; (refine wpList_app .u8 w2.heap.size 5 i0 1 rfl (.tmp 24) (.tmp 31) _ rfl Try.underlying26 Hi.out Hz0.out Hz1.out Hz2.out rfl (OwnI.lit (by simp [World.setCell]) [] _ (by simp [World.setCell]) (by simp)) rfl rd3 (by omega) (by omega) (by simp [World.setCell]) ?_)
         intro A5 c5 w5 hown5 hg5 hat5
         rw [Nat.zero_add, List.nil_append] at hown5
         have ac5 := ac3.grown hg5 (by simp [blkOf]; omega)
         have cc5 := ac5.cell (i := 0) (by omega)
         have zz5 := ac5.frozen' (i := 0) (by omega)))
    go_end0
    unfold AddPost
    have hsz := hg.size
    have hlt : 65536 < (l ++ b).length := by rw [List.length_append, hln]; omega
    have hae : addL l b = (l ++ b).drop (n + m - 32768) := by unfold addL; rw [if_pos hlt, List.length_append, hln]
    have hA5 : ∀ k, blkOf A5 = some k → w2.heap.size ≤ k := by
      intro k hk
      rcases hat5 with e | e
      · rw [e] at hk; simp [blkOf] at hk; omega
      · rw [e] at hk; simp [World.setCell] at hk; omega
    refine ⟨A5, n + m - (n + m - 32768), c5, rfl, ⟨(ac5.set_ (i := 0) (by omega) _).congr fun i hi => ?_, hw.lo, ?_, ?_, addL_le l b⟩, ?_, fun k hk => .inr (Nat.le_trans hsz (hA5 k hk))⟩
    · obtain rfl : i = 0 := by omega
      rw [upd_same]
    · rw [hae]
      exact (hown5.more (Nat.le_trans hb0 hsz)).far (p := ⟨g, 0, none⟩) (fun h => by have := hA5 g h; omega) _
    · exact fun h => by have := hA5 g h; omega
    · exact ((((Chg.refl w _).grown hg fun k hk => .inl (.inr hk)).setCell (p := ⟨g, 0, none⟩) (.inl (.inl rfl)) _).alloc _).grown hg5 (fun k hk => by simp [blkOf] at hk; exact .inr (by omega)) |>.setCell (p := ⟨g, 0, none⟩) (.inl (.inl rfl)) _
  · go_enter Try.func39, Try.ntmps39
    go_wp2_with (at_builtin; (refine wpList_app .u8 b0 5 i0 1 rfl (.tmp 11) (.tmp 12) _ rfl Try.underlying26 Hi.out Hz0.out Hz1.out Hz2.out rfl hw.own rfl hr (by omega) (by omega) hb0 ?_)
                 intro A2 c2 w2 hown hg hat
                 have ac2 := hw.cell.grown hg (fun e => hw.apart e.symm)
                 have cc2 := ac2.cell (i := 0) (by omega)
                 have zz2 := ac2.frozen' (i := 0) (by omega))
    go_end0
    unfold AddPost
    have hsz := hg.size
    have hlt : ¬ 65536 < (l ++ b).length := by rw [List.length_append, hln]; omega
    have hae : addL l b = l ++ b := by unfold addL; rw [if_neg hlt]
    have hA2 : ∀ k, blkOf A2 = some k → blkOf A = some k ∨ w.heap.size ≤ k := by
      intro k hk
      rcases hat with e | e
      · rw [e] at hk; exact .inl hk
      · rw [e] at hk; simp at hk; exact .inr (by omega)
    have hap2 : blkOf A2 ≠ some g := fun h => by
      rcases hA2 g h with h2 | h2
      · exact hw.apart h2
      · omega
    refine ⟨A2, n + m, c2, rfl, ⟨(ac2.set_ (i := 0) (by omega) _).congr fun i hi => ?_, hw.lo, ?_, hap2, addL_le l b⟩, ?_, hA2⟩
    · obtain rfl : i = 0 := by omega
      rw [upd_same]
    · rw [hae]
      exact hown.far (p := ⟨g, 0, none⟩) hap2 _
    · exact ((Chg.refl w _).grown hg fun k hk => .inl (.inr hk)).setCell (p := ⟨g, 0, none⟩) (.inl (.inl rfl)) _
end Go.Proofs.Ytjeedkjgjfbndaa
