/-
  The walk of table.Build.
-/
import Derived.Test.YtlgkiookobedcaaProg
import Derived.Test.YtlgkiookobedcaaPk6
import Derived.Test.YtlgkiookobedcaaPk8
import Derived.Test.YtlgkiookobedcaaPk7
import Derived.Test.YtlgkiookobedcaaPk3
import Derived.Deep.DeepCutAuto
import Derived.BigFrame
namespace Go.Proofs.Ytlgkiookobedcaa
open Go.RowKit
set_option linter.unusedVariables false
theorem tint_info : (Try.prog.info? 3).map (fun i => (i.zero, i.size, i.bytes)) = some (some (.int .i64 0), 1, 8) := by kernel_rfl
def tbF (Al : Option Addr) (nl cl : Nat) (Ac : Option Addr) (nc cc : Nat) (f : Nat → Int) (As : Option Addr) (ns cs : Nat) (lg : Int) (i : Nat) : Value :=
  if i = 0 then .slice Al nl cl else if i = 1 then .slice Ac nc cc else if i = 18 then .slice As ns cs else if i = 19 then .int .i64 lg else .int .i64 (f (i - 2))
def cf (l : List Int) (n i m : Nat) : Int := if m = 0 then 0 else if m < n then cnt l l.length m else if m = n then cnt l i n else 0
theorem cf_hit {l : List Int} {n i : Nat} (hn : 1 ≤ n) (h : ix l i = (n : Int)) (m : Nat) : (if m = n then cf l n i n + 1 else cf l n i m) = cf l n (i + 1) m := by
  by_cases e : m = n
  · subst e
    rw [if_pos rfl]
    unfold cf
    rw [if_neg (by omega), if_neg (by omega), if_pos rfl, if_neg (by omega), if_neg (by omega), if_pos rfl]
    simp [cnt, h]
  · rw [if_neg e]; unfold cf
    by_cases e0 : m = 0
    · rw [if_pos e0, if_pos e0]
    · rw [if_neg e0, if_neg e0]
      by_cases e1 : m < n
      · rw [if_pos e1, if_pos e1]
      · rw [if_neg e1, if_neg e1, if_neg e, if_neg e]
theorem cf_miss {l : List Int} {n i : Nat} (h : ¬ ix l i = (n : Int)) (m : Nat) : cf l n i m = cf l n (i + 1) m := by
  unfold cf
  have : cnt l (i + 1) n = cnt l i n := by simp [cnt, h]
  rw [this]
theorem cf_next (l : List Int) (n m : Nat) : cf l n l.length m = cf l (n + 1) 0 m := by
  unfold cf
  by_cases e0 : m = 0
  · rw [if_pos e0, if_pos e0]
  · rw [if_neg e0, if_neg e0]
    by_cases e1 : m < n
    · rw [if_pos e1, if_pos (by omega)]
    · rw [if_neg e1]
      by_cases e2 : m = n
      · subst e2; rw [if_pos rfl, if_pos (by omega)]
      · rw [if_neg e2, if_neg (by omega)]
        split <;> simp [cnt]
def lgI (l : List Int) (n i : Nat) : Nat := if cnt l i n = 0 then lgT l (n - 1) else n
theorem lgI_hit {l : List Int} {n i : Nat} (h : ix l i = (n : Int)) : lgI l n (i + 1) = n := by unfold lgI; rw [if_neg (by simp [cnt, h])]
theorem lgI_miss {l : List Int} {n i : Nat} (h : ¬ ix l i = (n : Int)) : lgI l n (i + 1) = lgI l n i := by
  unfold lgI
  have : cnt l (i + 1) n = cnt l i n := by simp [cnt, h]
  rw [this]
theorem lgI_next (l : List Int) {n : Nat} (hn : 1 ≤ n) : lgI l n l.length = lgI l (n + 1) 0 := by
  unfold lgI
  rw [if_pos (show cnt l 0 (n + 1) = 0 from rfl)]
  obtain ⟨m, rfl⟩ : ∃ m, n = m + 1 := ⟨n - 1, by omega⟩
  simp only [Nat.add_sub_cancel]
  rfl
theorem srt_next (l : List Int) {n : Nat} (hn : 1 ≤ n) : srt l (n - 1) ++ idxs l n l.length = srt l n := by
  obtain ⟨m, rfl⟩ : ∃ m, n = m + 1 := ⟨n - 1, by omega⟩
  rfl
def TabM (w0 : World) (g gl gc : Nat) (Al : Option Addr) (cl cc : Nat) (l : List Int) (n i : Nat) (w : World) : Prop :=
  ∃ (As : Option Addr) (ns cs : Nat), Ar w g 20 (tbF Al l.length cl (some ⟨gc, 0, none⟩) l.length cc (cf l n i) As ns cs (lgI l n i)) ∧ RdI .i64 w gl Al l.length l ∧ RdI .u32 w gl (some ⟨gc, 0, none⟩) l.length (codesOf l) ∧
    OwnI .i64 w gl 3 As ns cs (srt l (n - 1) ++ idxs l n i) ∧ g = gl ∧ w0.heap.size ≤ gc ∧ (∀ q, blkOf Al = some q → w0.heap.size ≤ q) ∧ blkOf As ≠ some g ∧ w0.heap.size ≤ g ∧ Below w0.heap.size w0 w
def TabOut (w0 : World) (g gl gc : Nat) (Al : Option Addr) (cl cc : Nat) (l : List Int) (s8 _a _b : Value) (w : World) : Prop :=
  ∃ n : Nat, 1 ≤ n ∧ n ≤ 16 ∧ s8 = .int .i64 n ∧ TabM w0 g gl gc Al cl cc l n 0 w
def TabIn (w0 : World) (g gl gc : Nat) (Al : Option Addr) (cl cc : Nat) (l : List Int) (n : Nat) (_a _b s30 : Value) (w : World) : Prop :=
  ∃ i : Nat, i ≤ l.length ∧ s30 = .int .i64 i ∧ TabM w0 g gl gc Al cl cc l n i w
def Tab (w : World) (b0 B g : Nat) (l : List Int) : Prop :=
  ∃ (Al Ac As : Option Addr) (cl cc cs : Nat), Ar w g 20 (tbF Al l.length cl Ac l.length cc (cf l 16 0) As (srt l 15).length cs (lgT l 15)) ∧ RdI .i64 w B Al l.length l ∧ RdI .u32 w B Ac l.length (codesOf l) ∧ RdI .i64 w B As (srt l 15).length (srt l 15) ∧
    b0 ≤ g ∧ g < B ∧ (∀ q, blkOf Al = some q → b0 ≤ q) ∧ (∀ q, blkOf Ac = some q → b0 ≤ q) ∧ (∀ q, blkOf As = some q → b0 ≤ q)
theorem Tab.chg {w w' : World} {b0 B g : Nat} {l : List Int} {S : Nat → Prop} (h : Tab w b0 B g l) (hc : Chg w w' S) (hB : B ≤ w.heap.size) (hS : ∀ k, b0 ≤ k → k < B → ¬ S k) : Tab w' b0 B g l := by
  obtain ⟨Al, Ac, As, cl, cc, cs, h1, h2, h3, h4, h5, h6, h7, h8, h9⟩ := h
  have key : ∀ {k : IntKind} {n : Nat} {A : Option Addr} {x : List Int}, RdI k w B A n x → (∀ q, blkOf A = some q → b0 ≤ q) → RdI k w' B A n x := fun hr hl =>
    ⟨hr.1, fun hm => by
      obtain ⟨ad, e, hb, hcc⟩ := hr.2 hm
      exact ⟨ad, e, hb, fun i hi => (hc.cell (by rw [addr_block]; omega) (by rw [addr_block]; exact hS _ (hl _ (by rw [e]; rfl)) hb)).trans (hcc i hi)⟩⟩
  exact ⟨Al, Ac, As, cl, cc, cs, hc.ar h1 (hS g h5 h6), key h2 h7, key h3 h8, key h4 h9, h5, h6, h7, h8, h9⟩
theorem Tab.keeps {w w' : World} {b0 B g : Nat} {l : List Int} (h : Tab w b0 B g l) (hB : B ≤ w.heap.size) (hb : Below w.heap.size w w') : Tab w' b0 B g l :=
  h.chg (S := fun _ => False) (Chg.of_below hb) hB fun _ _ _ => id
def BuildPost (w : World) (l : List Int) (e : Ending) (w' : World) : Prop :=
  ∃ g, e = .returned (.tuple #[.pointer (some ⟨g, 0, none⟩), .int .i64 0]) ∧ Tab w' w.heap.size w'.heap.size g l ∧ Below w.heap.size w w'
set_option maxRecDepth 100000 in
set_option maxHeartbeats 4000000 in
theorem build_ok (w : World) (A : Option Addr) (n c B : Nat) (l : List Int) (most : Int) (hr : RdI .i64 w B A n l) (hB : B ≤ w.heap.size) (hn : n ≤ 288) (h : checkOf l most = 0) :
    Calls Try.prog 61 #[.slice A n c, .int .i64 most] w (BuildPost w l) := by
  obtain ⟨i0, hi, hz0, hz1, hz2⟩ := info_parts tint_info
  have Hi := Lib.hid hi
  have Hz0 := Lib.hid hz0
  have Hz1 := Lib.hid hz1
  have Hz2 := Lib.hid hz2
  clear hi hz0 hz1 hz2
  have H0 := Lib.hid h
  have hra := hr.alloc hB (.cells #[] 3)
  have HN := Lib.hid hr.1
  clear h
  go_enter Try.func61, Try.ntmps61
  go_wp2_with fail
  refine (check_any _ _ _ _ _ most _ hr (by omega)).mono ?_
  rintro e w1 ⟨rfl, rfl⟩
  rw [H0.out]
  go_wp2_with (at_builtin; (refine wpList_app .i64 w.heap.size 3 i0 8 rfl (.tmp 17) (.tmp 18) _ rfl Try.underlying32 Hi.out Hz0.out Hz1.out Hz2.out rfl (OwnI.lit rfl [] _ (Nat.le_refl _) (by simp)) rfl hra (by omega) (by omega) (by simp) ?_)
               intro A2 d2 w2 hown hg hat)
  rw [List.nil_append, Nat.zero_add] at hown
  have hb2 : Below w.heap.size w w2 := ((Below.refl _ w).alloc (Nat.le_refl _) _).grown hg (by simp) (by simp [blkOf])
  have hr2 : RdI .i64 w2 B A n l := hr.below (hb2.mono hB)
  go_wp2_with fail
  refine (codes_at _ _ _ _ _ (hr2.more (Nat.le_trans hB hb2.size)) hn).mono ?_
  rintro e w3 ⟨rfl, hcd, hb3⟩
  have hlen : Hid (l.length = n) := HN.out.symm
  have hb23 := hb2.trans (hb3.mono hb2.size)
  have hal3 := (hown.keeps hb3).rd
  have hlo : ∀ q, blkOf A2 = some q → w.heap.size ≤ q := fun q hq => (hown.2.lt hq).1
  have hr3 : RdI .i64 w3 B A n l := hr.below (hb23.mono hB)
  have hnn := HN.out
  subst hnn
  have har : Ar (w3.alloc (.cells #[.slice A2 l.length d2, .slice (some ⟨w2.heap.size + 2, 0, none⟩) l.length l.length, .int .i64 0, .int .i64 0, .int .i64 0, .int .i64 0, .int .i64 0, .int .i64 0, .int .i64 0, .int .i64 0, .int .i64 0, .int .i64 0, .int .i64 0, .int .i64 0, .int .i64 0, .int .i64 0, .int .i64 0, .int .i64 0, .slice none 0 0, .int .i64 0] 124)) w3.heap.size 20
      (tbF A2 l.length d2 (some ⟨w2.heap.size + 2, 0, none⟩) l.length l.length (cf l 1 0) none 0 0 (lgI l 1 0)) :=
    Ar.new w3 _ _ rfl fun i hi => by
      have hz : ∀ m, cf l 1 0 m = 0 := fun m => by unfold cf; split; rfl; split; omega; split <;> simp [cnt]
      obtain rfl | rfl | rfl | rfl | hm : i = 0 ∨ i = 1 ∨ i = 18 ∨ i = 19 ∨ (2 ≤ i ∧ i < 18) := by omega
      · rfl
      · rfl
      · rfl
      · rfl
      · unfold tbF
        rw [if_neg (by omega), if_neg (by omega), if_neg (by omega), if_neg (by omega), hz]
        obtain rfl | rfl | rfl | rfl | rfl | rfl | rfl | rfl | rfl | rfl | rfl | rfl | rfl | rfl | rfl | rfl : i = 2 ∨ i = 3 ∨ i = 4 ∨ i = 5 ∨ i = 6 ∨ i = 7 ∨ i = 8 ∨ i = 9 ∨ i = 10 ∨ i = 11 ∨ i = 12 ∨ i = 13 ∨ i = 14 ∨ i = 15 ∨ i = 16 ∨ i = 17 := by omega
        all_goals rfl
  have hM : TabM w w3.heap.size w3.heap.size (w2.heap.size + 2) A2 d2 l.length l 1 0 (w3.alloc (.cells #[.slice A2 l.length d2, .slice (some ⟨w2.heap.size + 2, 0, none⟩) l.length l.length, .int .i64 0, .int .i64 0, .int .i64 0, .int .i64 0, .int .i64 0, .int .i64 0, .int .i64 0, .int .i64 0, .int .i64 0, .int .i64 0, .int .i64 0, .int .i64 0, .int .i64 0, .int .i64 0, .int .i64 0, .int .i64 0, .slice none 0 0, .int .i64 0] 124)) :=
    ⟨none, 0, 0, har, hal3.alloc (Nat.le_refl _) _, hcd.alloc (Nat.le_refl _) _, OwnI.nil_, rfl, by have := hb2.size; omega, hlo, by simp [blkOf], hb23.size, hb23.alloc hb23.size _⟩
  clear har
  go_wp2_with fail
  obtain ⟨g, hg⟩ : ∃ g, w3.heap.size = g := ⟨_, rfl⟩
  obtain ⟨gc, hgc⟩ : ∃ gc, w2.heap.size + 2 = gc := ⟨_, rfl⟩
  rw [hg, hgc] at hM
  rw [hg, hgc]
  have HGC := Lib.hid hgc
  have HG := Lib.hid hg
  clear hg hgc hcd hb3 hal3 hr3 hra hat
  go_loopw [8, 9, 10] (TabOut w g g gc A2 d2 l.length l) (fun s8 _ _ _ => 17 - (intOf s8).toNat)
  case atStart => exact ⟨1, Nat.le_refl _, by omega, rfl, hM⟩
  case round =>
    clear hM
    obtain ⟨n, hn1, hn16, rfl, hM⟩ := hrel
    by_cases hlt : n < 16
    · have hnI : (1 : Int) ≤ n ∧ (n : Int) ≤ 15 := by omega
      go_wp2_with fail
      go_loopw [9, 10, 30] (TabIn w g g gc A2 d2 l.length l n) (fun _ _ s30 _ => l.length - (intOf s30).toNat)
      case atStart => exact ⟨0, Nat.zero_le _, rfl, hM⟩
      case round =>
        clear hM
        obtain ⟨i, hi, rfl, As, ns, cs, har, hal, hcd, hown, _, hgc, hlo, hap, hwg, hb⟩ := hrel
        by_cases hil : i < l.length
        · have hiI : (0 : Int) ≤ i ∧ (i : Int) < (l.length : Int) := by omega
          obtain ⟨ad, rfl, hbl, c1⟩ := (hr.below (hb.mono hB)).at_ hil
          obtain ⟨x, hx⟩ : ∃ x, ix l i = x := ⟨_, rfl⟩
          rw [hx] at c1
          by_cases hxn : x = (n : Int)
          · subst hxn
            have hxx : ix l i = (n : Int) := hx
            have e1 : Hid (idxs l n (i + 1) = idxs l n i ++ [(i : Int)]) := by show _ = _; rw [idxs_succ, if_pos hxx]
            obtain ⟨C, hC⟩ : ∃ C : Int, cf l n i n = C := ⟨_, rfl⟩
            have hCb : 0 ≤ C ∧ C ≤ 288 := by rw [← hC]; unfold cf; have := cnt_le l i n; split; omega; split; omega; split <;> omega
            have k2 := har.cell (i := 2 + n) (by omega)
            have k18 := har.cell (i := 18) (by omega)
            have z2 := har.frozen' (i := 2 + n) (by omega)
            have z18 := har.frozen' (i := 18) (by omega)
            have z19 := har.frozen' (i := 19) (by omega)
            have t2 : ∀ f As ns cs lg, tbF A2 l.length d2 (some ⟨gc, 0, none⟩) l.length l.length f As ns cs lg (2 + n) = .int .i64 (f n) := fun f As ns cs lg => by
              unfold tbF; rw [if_neg (by omega), if_neg (by omega), if_neg (by omega), if_neg (by omega), Nat.add_sub_cancel_left]
            have t18 : ∀ f As ns cs lg, tbF A2 l.length d2 (some ⟨gc, 0, none⟩) l.length l.length f As ns cs lg 18 = .slice As ns cs := fun f As ns cs lg => rfl
            rw [t2, hC] at k2
            rw [t18] at k18
            have ew : IntKind.i64.wrap (C + 1) = C + 1 := by rw [IntWalk.i64_in _ (by omega)]
            have har1 := har.drew.set_ (i := 2 + n) (by omega) (.int .i64 (C + 1))
            have k18a : (wr.drew.setCell ⟨g, 2 + n, none⟩ (.int .i64 (C + 1))).cell? ⟨g, 18, none⟩ = some (.slice As ns cs) := by rw [har1.cell (i := 18) (by omega), upd_other _ _ (by omega), t18]
            have z18a := har1.frozen' (i := 18) (by omega)
            have z19a := har1.frozen' (i := 19) (by omega)
            have har2 := har1.alloc (.cells #[.int .i64 i] 3)
            have k18b : ((wr.drew.setCell ⟨g, 2 + n, none⟩ (.int .i64 (C + 1))).alloc (.cells #[.int .i64 i] 3)).cell? ⟨g, 18, none⟩ = some (.slice As ns cs) := by rw [har2.cell (i := 18) (by omega), upd_other _ _ (by omega), t18]
            have hown1 := (hown.drew.far (p := ⟨g, 2 + n, none⟩) hap (.int .i64 (C + 1))).alloc (.cells #[.int .i64 i] 3)
            have hnsb : ns + 1 ≤ 1000000000000 := by
              have := hown.1
              rw [List.length_append, srt_length, idxs_length] at this
              have h1 := below_le l (n - 1)
              have h2 := cnt_le l i n
              have h3 : (n - 1) * l.length ≤ 15 * 288 := Nat.mul_le_mul (by omega) (by omega)
              omega
            have HX := Lib.hid hx
            have HC := Lib.hid hC
            have hgs : g + 1 ≤ wr.heap.size := har.lt
            clear hx hC
            go_wp2_with fail
            go_cut [] (fun wx => wx = wr.drew.setCell ⟨g, 2 + n, none⟩ (.int .i64 (C + 1)))
            case first =>
              go_region
              all_goals
                go_wp2_with fail
                go_meet
                rfl
            case rest =>
              subst hcut
              have hlit := RdI.lit' .i64 (w := wr.drew.setCell ⟨g, 2 + n, none⟩ (.int .i64 (C + 1))) (g := wr.heap.size) (by simp [World.setCell]) [(i : Int)] 3
              have hbase : g ≤ ((wr.drew.setCell ⟨g, 2 + n, none⟩ (.int .i64 (C + 1))).alloc (.cells #[.int .i64 i] 3)).heap.size := by simp [World.setCell]; omega
              go_wp2_with (at_builtin; go_must (refine wpList_app .i64 g 3 i0 8 rfl (.tmp 52) (.tmp 54) _ rfl Try.underlying32 Hi.out Hz0.out Hz1.out Hz2.out rfl hown1 rfl hlit hnsb (by omega) hbase ?_)
                           intro A5 c5 w5 hown5 hg5 hat5
                           have har5 := har2.grown hg5 (fun e => hap e.symm)
                           have z18c := har5.frozen' (i := 18) (by omega)
                           have k18c := har5.cell (i := 18) (by omega)
                           have k19c := har5.cell (i := 19) (by omega)
                           rw [upd_other _ _ (by omega)] at k18c k19c
                           have z19c := har5.frozen' (i := 19) (by omega))
              go_roundw
              case rel =>
                have hap5 : blkOf A5 ≠ some g := by
                  rcases hat5 with e | e
                  · rw [e]; exact hap
                  · rw [e]; intro h; injection h with h; simp [World.setCell] at h; omega
                have hrow : ∀ q, blkOf As = some q → w.heap.size ≤ q := fun q hq => Nat.le_trans hwg (hown.2.lt hq).1
                have hb1 := ((hb.drew.setCell (p := ⟨g, 2 + n, none⟩) hwg (.int .i64 (C + 1))).alloc (by simp [World.setCell]; exact hb.size) (.cells #[.int .i64 i] 3))
                have hgl : ∀ {k : IntKind} {m : Nat} {X : Option Addr} {y : List Int}, RdI k wr g X m y → RdI k w5 g X m y := fun hq =>
                  hq.keep fun p hp => World.cell?_of_block ((hg5.block p.block (by simp [World.setCell]; omega) (fun e => by have := (hown.2.lt e.symm).1; omega)).trans ((Below.heap_alloc _ _ _ (by simp [World.setCell]; omega)).trans (Below.heap_setCell _ _ _ _ (by simp; omega))))
                have hgl2 : ∀ {k : IntKind} {m : Nat} {X : Option Addr} {y : List Int}, RdI k wr g X m y → RdI k ((w5.setCell ⟨g, 18, none⟩ (.slice A5 (ns + 1) c5)).setCell ⟨g, 19, none⟩ (.int .i64 n)) g X m y := fun hq =>
                  (hgl hq).keep fun p hp => World.cell?_of_block ((Below.heap_setCell _ _ _ _ (by simp; omega)).trans (Below.heap_setCell _ _ _ _ (by simp; omega)))
                refine ⟨i + 1, hil, by go_num, A5, ns + 1, c5, ((har5.set_ (i := 18) (by omega) _).set_ (i := 19) (by omega) _).congr fun j hj => ?_, hgl2 hal, hgl2 hcd, ?_, rfl, hgc, hlo, hap5, hwg, ?_⟩
                · rw [lgI_hit hxx]
                  by_cases j19 : j = 19
                  · subst j19; rw [upd_same]; rfl
                  · rw [upd_other _ _ j19]
                    by_cases j18 : j = 18
                    · subst j18; rw [upd_same]; rfl
                    · rw [upd_other _ _ j18]
                      by_cases j2 : j = 2 + n
                      · subst j2; rw [upd_same, t2, ← cf_hit hn1 hxx, if_pos rfl, HC.out]
                      · rw [upd_other _ _ j2]
                        unfold tbF
                        by_cases j0 : j = 0
                        · rw [if_pos j0, if_pos j0]
                        · rw [if_neg j0, if_neg j0]
                          by_cases j1 : j = 1
                          · rw [if_pos j1, if_pos j1]
                          · rw [if_neg j1, if_neg j1, if_neg j18, if_neg j18, if_neg j19, if_neg j19, ← cf_hit hn1 hxx, if_neg (by omega)]
                · rw [e1.out, ← List.append_assoc]
                  exact (hown5.far (p := ⟨g, 18, none⟩) hap5 _).far (p := ⟨g, 19, none⟩) hap5 _
                · exact ((hb1.grown hg5 hb1.size hrow).setCell (p := ⟨g, 18, none⟩) hwg _).setCell (p := ⟨g, 19, none⟩) hwg _
              case measure => simp [intOf]; omega
          · have hxf : (x == (n : Int)) = false := by simpa using hxn
            have hrel2 : TabIn w g g gc A2 d2 l.length l n (.int .i64 i) (.int .i64 x) (.int .i64 ((i : Int) + 1)) wr := by
              have hxx : ¬ ix l i = (n : Int) := by rw [hx]; exact hxn
              have e1 : idxs l n (i + 1) = idxs l n i := by rw [idxs_succ, if_neg hxx, List.append_nil]
              refine ⟨i + 1, hil, by go_num, As, ns, cs, ?_, hal, hcd, by rw [e1]; exact hown, rfl, hgc, hlo, hap, hwg, hb⟩
              rw [lgI_miss hxx]
              refine har.congr fun j hj => ?_
              unfold tbF
              rw [← cf_miss hxx]
            clear hx
            go_wp2_with fail
            go_roundw
            case rel => exact hrel2
            case measure => simp [intOf]; omega
        · obtain rfl : i = l.length := by omega
          have hM2 : TabM w g g gc A2 d2 l.length l (n + 1) 0 wr := by
            refine ⟨As, ns, cs, ?_, hal, hcd, ?_, rfl, hgc, hlo, hap, hwg, hb⟩
            · rw [lgI_next l hn1] at har
              refine har.congr fun j hj => ?_
              unfold tbF
              rw [cf_next]
            · rw [srt_next l hn1] at hown
              rw [Nat.add_sub_cancel, show idxs l (n + 1) 0 = [] from rfl, List.append_nil]
              exact hown
          clear har hal hcd hown hb
          go_wp2_with fail
          go_roundw
          case rel => exact ⟨n + 1, by omega, by omega, by go_num, hM2⟩
          case measure => simp [intOf]; omega
    · obtain rfl : n = 16 := by omega
      obtain ⟨As, ns, cs, har, hal, hcd, hown, _, hgc, hlo, hap, hwg, hb⟩ := hM
      have hgl := har.lt
      have hsr : srt l (16 - 1) ++ idxs l 16 0 = srt l 15 := by rw [show idxs l 16 0 = [] from rfl, List.append_nil]
      rw [hsr] at hown
      have hns := hown.1
      subst hns
      have hT : Tab wr w.heap.size wr.heap.size g l := ⟨A2, _, As, d2, _, cs, har, hal.more (Nat.le_of_lt hgl), hcd.more (Nat.le_of_lt hgl), hown.rd, hwg, hgl, hlo, fun q hq => by simp [blkOf] at hq; omega, fun q hq => Nat.le_trans hwg (hown.2.lt hq).1⟩
      clear har hal hcd hown
      go_wp2
      go_ret2
      exact ⟨g, rfl, hT, hb⟩
end Go.Proofs.Ytlgkiookobedcaa
