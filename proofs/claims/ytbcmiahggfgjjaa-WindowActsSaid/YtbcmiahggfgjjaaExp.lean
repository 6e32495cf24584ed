/-
  The walk of Expand.
-/
import Derived.Test.YtbcmiahggfgjjaaProg
import Derived.Test.YtbcmiahggfgjjaaCopy
import Derived.Test.YtbcmiahggfgjjaaSound
import Derived.Test.YtbcmiahggfgjjaaExpP
namespace Go.Proofs.Ytbcmiahggfgjjaa
open Go.RowKit
set_option linter.unusedVariables false

theorem addr_next (a : Addr) (m j : Nat) (hj : 0 < j) : a.add (m + j) = ⟨(a.add m).block, (a.add m).off + j, none⟩ := by
  unfold Addr.add
  rw [if_neg (by simp; omega)]
  by_cases hm : m = 0
  · subst hm; simp
  · simp [hm, Nat.add_assoc]
/-- the fields of the token at place i -/
def tokAt (l : List Tok) (i : Nat) : Tok := l.getD i ⟨0, 0, 0⟩
/-- A slice of tokens that reads as l. -/
def RdT (w : World) (B : Nat) (A : Option Addr) (n : Nat) (l : List Tok) : Prop :=
  n = l.length ∧ (0 < n → ∃ ad, A = some ad ∧ ad.block < B ∧ ∀ i, i < n → w.cell? (ad.add (i * 3)) = some (.int .u8 (tokAt l i).lit) ∧ w.cell? (ad.add (i * 3 + 1)) = some (.int .i64 (tokAt l i).len) ∧ w.cell? (ad.add (i * 3 + 2)) = some (.int .i64 (tokAt l i).dist))

theorem RdT.drop_ {l : List Tok} {n k : Nat} (hn : n = l.length) (hk : k < n) : l.drop k = tokAt l k :: l.drop (k + 1) := by
  rw [List.drop_eq_getElem_cons (by omega)]
  simp [tokAt, List.getD_eq_getElem?_getD, show k < l.length by omega]
def tf (L N D : Int) : Nat → Value
  | 0 => .int .u8 L
  | 1 => .int .i64 N
  | _ => .int .i64 D
theorem tf_new (w : World) (L N D : Int) (t : TypeId) : Ar (w.alloc (.cells #[.int .u8 L, .int .i64 N, .int .i64 D] t)) w.heap.size 3 (tf L N D) :=
  Ar.new w _ t rfl fun i hi => by
    obtain rfl | rfl | rfl : i = 0 ∨ i = 1 ∨ i = 2 := by omega
    · rfl
    · rfl
    · rfl
def ExpRel (w : World) (l : List Tok) (n g : Nat) (o i : Value) (wr : World) : Prop :=
  ∃ (k : Nat) (out : List Int) (A C : Option Addr) (m d n1 c1 : Nat) (wl : List Int), k ≤ n ∧ i = .int .i64 k ∧ o = .slice A m d ∧ OwnI .u8 wr w.heap.size 5 A m d out ∧ Win wr w.heap.size g C n1 c1 wl ∧
    (∀ q, blkOf A = some q → ¬ foot C g q) ∧ Tail out wl ∧ Below w.heap.size w wr ∧ expand out (l.drop k) = expand [] l ∧ out.length ≤ 16777216
def ExpPost (w : World) (l : List Tok) (e : Ending) (w' : World) : Prop :=
  ∃ A n c, e = .returned (.tuple #[.slice A n c, .int .i64 (expand [] l).1]) ∧ OwnI .u8 w' w.heap.size 5 A n c (expand [] l).2 ∧ Below w.heap.size w w'
theorem soundB_iff (L N D : Int) : soundB L N D = decide (soundT ⟨L, N, D⟩) := by
  unfold soundB soundT
  by_cases h : N = 0
  · simp [h]
  · simp [h]

theorem exp_next {w wr w3 w4 : World} {g n3 c3 m d : Nat} {A1 A4 C C3 : Option Addr} {wl out : List Int} (ho : OwnI .u8 wr w.heap.size 5 A1 m d out) (hap : ∀ q, blkOf A1 = some q → ¬ foot C g q)
    (hw3 : Win w3 w.heap.size g C3 n3 c3 wl) (hf3 : ∀ q, blkOf C3 = some q → blkOf C = some q ∨ wr.heap.size ≤ q) (hg4 : w3.grownBy w4 (blkOf A1)) (hat : blkOf A4 = blkOf A1 ∨ blkOf A4 = some w3.heap.size) :
    Win w4 w.heap.size g C3 n3 c3 wl ∧ ∀ q, blkOf A4 = some q → ¬ foot C3 g q := by
  have h1 : ∀ q, blkOf A1 = some q → ¬ foot C3 g q := by
    rintro q hq (rfl | h)
    · exact hap _ hq (.inl rfl)
    · rcases hf3 q h with h2 | h2
      · exact hap q hq (.inr h2)
      · have := (ho.2.lt hq).2; omega
  refine ⟨hw3.chg (S := fun q => blkOf A1 = some q) ((Chg.refl w3 _).grown hg4 fun q hq => .inl hq) fun q hq h2 => h1 q h2 hq, fun q hq => ?_⟩
  rcases hat with h | h
  · exact h1 q (h ▸ hq)
  · intro hf
    have := (hw3.foot_lo hf).2
    rw [h] at hq
    injection hq with hq
    omega
theorem cpL_again {out wl : List Int} (h : Tail out wl) {D N : Nat} (h1 : 1 ≤ D) (h2 : D ≤ wl.length) : cpL wl D N = again out D N := by
  unfold cpL again
  refine List.map_congr_left fun i _ => ?_
  rw [← ix_drop, h.back h2, ix_drop]

set_option maxRecDepth 100000 in
set_option maxHeartbeats 8000000 in
theorem expand_any (w : World) (A : Option Addr) (n c : Nat) (l : List Tok) (hr : RdT w w.heap.size A n l) (hn : (n : Int) ≤ 1000000000000) :
    Calls Try.prog 27 #[.slice A n c] w (ExpPost w l) := by
  obtain ⟨i0, hi, hz0, hz1, hz2⟩ := info_parts wbyte_info
  have Hi := Lib.hid hi
  have Hz0 := Lib.hid hz0
  have Hz1 := Lib.hid hz1
  have Hz2 := Lib.hid hz2
  clear hi hz0 hz1 hz2
  go_enter Try.func27, Try.ntmps27
  go_wp2_with fail
  refine (winNew_any _).mono ?_
  rintro e w1 ⟨g, rfl, hw1, hb1⟩
  go_wp2_with fail
  go_loopw [5, 13] (ExpRel w l n g) (fun _ i _ => n - (intOf i).toNat)
  case atStart => exact ⟨0, [], none, none, 0, 0, 0, 0, [], Nat.zero_le _, rfl, rfl, OwnI.nil_, hw1, by simp [blkOf], Tail.nil_, hb1, rfl, by simp⟩
  case round =>
    obtain ⟨k, out, A1, C, m, d, n1, c1, wl, hk, rfl, rfl, ho, hw, hap, htl, hb, hex, hol⟩ := hrel
    by_cases hlt : k < n
    · obtain ⟨ad, rfl, hbl, hcs⟩ := hr.2 (by omega)
      have hk0 : (0 : Int) ≤ k ∧ (k : Int) < n := by omega
      obtain ⟨a0, a1, a2⟩ := hcs k hlt
      rw [← hb.cell (by rw [addr_block]; exact hbl)] at a0 a1 a2
      rw [addr_next _ _ _ (by omega)] at a1 a2
      rw [RdT.drop_ hr.1 hlt, expand_cons] at hex
      obtain ⟨⟨L, N, D⟩, ht⟩ : ∃ t : Tok, tokAt l k = t := ⟨_, rfl⟩
      rw [ht] at a0 a1 a2 hex
      have HEX := Lib.hid hex
      clear ht hcs hex
      replace a0 : wr.cell? (ad.add (k * 3)) = some (.int .u8 L) := a0
      replace a1 : wr.cell? { block := (ad.add (k * 3)).block, off := (ad.add (k * 3)).off + 1 } = some (.int .i64 N) := a1
      replace a2 : wr.cell? { block := (ad.add (k * 3)).block, off := (ad.add (k * 3)).off + 2 } = some (.int .i64 D) := a2
      have hm := ho.1
      have hmI : (m : Int) ≤ 16777216 := by omega
      have HOL := Lib.hid hol
      have HMM := Lib.hid hm
      have hHm : Hid ((out.length : Int) = (m : Int)) := by show _ = _; omega
      clear hol
      have hba := hb.alloc hb.size (.cells #[.int .u8 L, .int .i64 N, .int .i64 D] 52)
      have har := tf_new wr L N D 52
      by_cases hS : soundT ⟨L, N, D⟩
      · have hs : soundB L N D = true := by rw [soundB_iff]; simpa using hS
        have hSv : (N = 0 ∧ D = 0) ∨ (¬ N = 0 ∧ L = 0 ∧ 3 ≤ N ∧ N ≤ 258 ∧ 1 ≤ D ∧ D ≤ 32768) := by
          unfold soundT at hS
          by_cases h : N = 0
          · rw [if_pos h] at hS; exact .inl ⟨h, hS⟩
          · rw [if_neg h] at hS; exact .inr ⟨h, hS⟩
        have hwa := hw.keeps ((Below.refl _ wr).alloc (Nat.le_refl _) (.cells #[.int .u8 L, .int .i64 N, .int .i64 D] 52))
        have hoa := ho.alloc (.cells #[.int .u8 L, .int .i64 N, .int .i64 D] 52)
        by_cases hcap : 16777216 < (m : Int) + max N 1
        · have hst : step out ⟨L, N, D⟩ = (6, []) := by unfold step; rw [if_neg (by simpa using hS), if_pos (by rw [hHm.out]; exact hcap)]
          have hfin : (6, []) = expand [] l := by rw [← HEX.out, hst]; rfl
          have HF := Lib.hid hfin
          clear hfin hst hS
          clear hm
          have hcs : (N = 0 ∧ 16777216 < (m : Int) + 1) ∨ ((¬ N < 1 ∧ 1 < N ∧ N ≤ 258) ∧ 16777216 < (m : Int) + N) := by omega
          clear hcap hSv
          rcases hcs with ⟨rfl, hcap⟩ | ⟨h1, hcap⟩
          all_goals
            go_wp2_with fail
            refine (sound_any L _ D _).mono ?_
            rintro e w2 ⟨rfl, hb2⟩
            rw [hs]
            have arb := har.keeps hb2
            have e1 : w2.cell? ⟨wr.heap.size, 1, none⟩ = _ := arb.cell (i := 1) (by omega)
            unfold tf at e1
            go_wp2
            go_ret2
            exact ⟨none, 0, 0, by rw [← HF.out]; rfl, by rw [← HF.out]; exact OwnI.nil_, hba.trans (hb2.mono hba.size)⟩
        · rcases hSv with ⟨rfl, rfl⟩ | ⟨h0, rfl, h1, h2, h3, h4⟩
          · have hst : step out ⟨L, 0, 0⟩ = (0, out ++ [L]) := by unfold step; rw [if_neg (by simpa using hS), if_neg (by rw [hHm.out]; exact hcap), if_pos rfl]
            clear hm
            have HC : Hid (m + 1 ≤ 16777216) := by show _ ≤ _; omega
            have hcap2 : ((16777216 : Int) < (m : Int) + 1) = False := eq_false (by omega)
            have hnx : expand (out ++ [L]) (l.drop (k + 1)) = expand [] l := by rw [← HEX.out, hst]; rfl
            have HF := Lib.hid hnx
            clear hnx hst hS hcap
            go_wp2_with fail
            refine (sound_any L _ _ _).mono ?_
            rintro e w2 ⟨rfl, hb2⟩
            rw [hs]
            have arb := har.keeps hb2
            have e0 : w2.cell? ⟨wr.heap.size, 0, none⟩ = _ := arb.cell (i := 0) (by omega)
            have e1 : w2.cell? ⟨wr.heap.size, 1, none⟩ = _ := arb.cell (i := 1) (by omega)
            unfold tf at e0 e1
            have hbw2 := hba.trans (hb2.mono hba.size)
            have hw2 := (hwa.keeps hb2).keeps ((Below.refl _ w2).alloc (Nat.le_refl _) (.cells #[.int .u8 L] 5))
            have ho2 := (hoa.keeps hb2).alloc (.cells #[.int .u8 L] 5)
            have ar2 := arb.alloc (.cells #[.int .u8 L] 5)
            have hfl : ∀ q, foot C g q → q < wr.heap.size := fun q hq => (hw.foot_lo hq).2
            go_wp2_with fail
            refine (winAdd_any _ _ _ _ _ _ _ _ _ _ _ [L] hw2 (RdI.lit .u8 w2 [L] 5) (by simp) (by simp)).mono ?_
            rintro e w3 ⟨C3, n3, c3, rfl, hw3, hg3, hf3⟩
            have ar3 := hg3.ar ar2 (fun h => by have := hfl _ h; omega)
            have e03 : w3.cell? ⟨wr.heap.size, 0, none⟩ = _ := ar3.cell (i := 0) (by omega)
            unfold tf at e03
            have ho3 := hg3.ownI ho2 hap
            have hb3 := (hbw2.alloc hbw2.size (.cells #[.int .u8 L] 5)).trans (hg3.below (fun q hq => (hw.foot_lo hq).1) (by have := hbw2.size; simp; omega))
            have ho3a := ho3.alloc (.cells #[.int .u8 L] 5)
            have hw3a := hw3.keeps ((Below.refl _ w3).alloc (Nat.le_refl _) (.cells #[.int .u8 L] 5))
            have hb3a := hb3.alloc hb3.size (.cells #[.int .u8 L] 5)
            go_wp2_with (at_builtin; (refine wpList_app .u8 w.heap.size 5 i0 1 rfl (.tmp 35) (.tmp 38) _ rfl Try.underlying22 Hi.out Hz0.out Hz1.out Hz2.out rfl ho3a rfl (RdI.lit .u8 w3 [L] 5) (by omega) (by omega) (by have := hb3a.size; exact this) ?_)
                         intro A4 d4 w4 hown4 hg4 hat4)
            go_roundw
            case rel =>
              obtain ⟨r1, r2⟩ := exp_next ho hap hw3a (fun q hq => (hf3 q hq).imp id fun h => by have := hb2.size; simp at this h; omega) hg4 hat4
              exact ⟨k + 1, out ++ [L], A4, C3, m + 1, d4, n3, c3, _, by omega, by go_num, rfl, hown4, r1, r2, htl.add [L], hb3a.grown hg4 hb3a.size (fun q hq => (ho.2.lt hq).1), HF.out, by have := HC.out; have := HMM.out; simp; omega⟩
            case measure => simp [intOf]; omega
          · obtain ⟨N, rfl⟩ := Int.eq_ofNat_of_zero_le (show 0 ≤ N by omega)
            obtain ⟨D, rfl⟩ := Int.eq_ofNat_of_zero_le (show 0 ≤ D by omega)
            have hN0 : ((N : Int) == 0) = false := by simpa using h0
            have hN1 : ¬ (N : Int) < 1 ∧ 1 < (N : Int) := by omega
            have hcap2 : ((16777216 : Int) < (m : Int) + (N : Int)) = False := eq_false (by omega)
            have HC : Hid (m + N ≤ 16777216) := by show _ ≤ _; omega
            have hmn := htl.len
            have hn1 := hw.n_eq
            by_cases hfar : m < D
            · have hst : step out ⟨0, N, D⟩ = (3, []) := by unfold step; rw [if_neg (by simpa using hS), if_neg (by rw [hHm.out]; exact hcap), if_neg h0, if_pos (by show (out.length : Int) < (D : Int); omega)]
              have hfin : (3, []) = expand [] l := by rw [← HEX.out, hst]; rfl
              have HF := Lib.hid hfin
              have hDD : (D : Int) < 1 ∨ ((min n1 32768 : Nat) : Int) < (D : Int) := by omega
              have HDD := Lib.hid hDD
              clear hfin hst hS hcap hm hfar hmn hn1 hDD
              go_wp2_with fail
              refine (sound_any 0 _ _ _).mono ?_
              rintro e w2 ⟨rfl, hb2⟩
              rw [hs]
              have arb := har.keeps hb2
              have e1 : w2.cell? ⟨wr.heap.size, 1, none⟩ = _ := arb.cell (i := 1) (by omega)
              have e2 : w2.cell? ⟨wr.heap.size, 2, none⟩ = _ := arb.cell (i := 2) (by omega)
              unfold tf at e1 e2
              have hw2 := hwa.keeps hb2
              go_wp2_with fail
              refine (copy_code _ _ _ _ _ _ _ hw2 N D (by omega) HDD.out).mono ?_
              rintro e w3 ⟨rfl, rfl⟩
              go_wp2
              go_ret2
              exact ⟨none, 0, 0, by rw [← HF.out]; rfl, by rw [← HF.out]; exact OwnI.nil_, hba.trans (hb2.mono hba.size)⟩
            · have hst : step out ⟨0, N, D⟩ = (0, out ++ again out D N) := by unfold step; rw [if_neg (by simpa using hS), if_neg (by rw [hHm.out]; exact hcap), if_neg h0, if_neg (by show ¬ (out.length : Int) < (D : Int); omega)]; rfl
              have hDD : 1 ≤ (D : Int) ∧ (D : Int) ≤ ((min n1 32768 : Nat) : Int) := by omega
              have hnx : expand (out ++ again out D N) (l.drop (k + 1)) = expand [] l := by rw [← HEX.out, hst]; rfl
              have hag : cpL wl D N = again out D N := cpL_again htl (by omega) (by omega)
              rw [← hag] at hnx
              have HF := Lib.hid hnx
              have HDD := Lib.hid hDD
              clear hnx hst hS hcap hm hfar hmn hn1 hDD hag
              go_wp2_with fail
              refine (sound_any 0 _ _ _).mono ?_
              rintro e w2 ⟨rfl, hb2⟩
              rw [hs]
              have arb := har.keeps hb2
              have e1 : w2.cell? ⟨wr.heap.size, 1, none⟩ = _ := arb.cell (i := 1) (by omega)
              have e2 : w2.cell? ⟨wr.heap.size, 2, none⟩ = _ := arb.cell (i := 2) (by omega)
              unfold tf at e1 e2
              have hbw2 := hba.trans (hb2.mono hba.size)
              have hw2 := hwa.keeps hb2
              have ho2 := hoa.keeps hb2
              go_wp2_with fail
              refine (copy_ok _ _ _ _ _ _ _ hw2 N D (by omega) HDD.out).mono ?_
              rintro e w3 ⟨g3, C3, n3, c3, rfl, hob, hw3, _, hg3, hf3⟩
              have ho3 := hg3.ownI ho2 hap
              have hb3 := hbw2.trans (hg3.below (fun q hq => (hw.foot_lo hq).1) hbw2.size)
              go_wp2_with (at_builtin; (refine wpList_app .u8 w.heap.size 5 i0 1 rfl (.tmp 52) (.tmp 53) _ rfl Try.underlying22 Hi.out Hz0.out Hz1.out Hz2.out rfl ho3 rfl hob.rd (by have := HC.out; omega) (by omega) hb3.size ?_)
                           intro A4 d4 w4 hown4 hg4 hat4)
              go_roundw
              case rel =>
                obtain ⟨r1, r2⟩ := exp_next ho hap hw3 (fun q hq => (hf3 q hq).imp id fun h => by have := hb2.size; simp at this h; omega) hg4 hat4
                exact ⟨k + 1, out ++ cpL wl D N, A4, C3, m + N, d4, n3, c3, _, by omega, by go_num, rfl, hown4, r1, r2, htl.add _, hb3.grown hg4 hb3.size (fun q hq => (ho.2.lt hq).1), HF.out, by have := HC.out; have := HMM.out; rw [List.length_append, cpL_length]; omega⟩
              case measure => simp [intOf]; omega
      · have hs : soundB L N D = false := by rw [soundB_iff]; simpa using hS
        have hst : step out ⟨L, N, D⟩ = (1, []) := by unfold step; rw [if_pos hS]
        have hfin : (1, []) = expand [] l := by rw [← HEX.out, hst]; rfl
        have HF := Lib.hid hfin
        clear hfin hst hS
        go_wp2_with fail
        refine (sound_any L N D _).mono ?_
        rintro e w2 ⟨rfl, hb2⟩
        rw [hs]
        go_wp2
        go_ret2
        exact ⟨none, 0, 0, by rw [← HF.out]; rfl, by rw [← HF.out]; exact OwnI.nil_, hba.trans (hb2.mono hba.size)⟩
    · obtain rfl : n = k := by omega
      rw [hr.1, List.drop_length] at hex
      have HF := Lib.hid hex
      clear hex
      go_wp2
      go_ret2
      exact ⟨A1, m, d, by rw [← HF.out]; rfl, by rw [← HF.out]; exact ho, hb⟩
end Go.Proofs.Ytbcmiahggfgjjaa
