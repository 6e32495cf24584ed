import Derived.Test.YtbcmiahggfgjjaaProg
import Derived.Test.YtbcmiahggfgjjaaLawTokJ
import Derived.Deep.RegionHeld3
namespace Go.Proofs.Ytbcmiahggfgjjaa
open Go.RowKit
set_option linter.unusedVariables false

/-- what is held across the two calls of the loop's region -/
structure Held (w0 : World) (p : Addr) (L N D : Int) (w : World) : Prop where
  c0 : w.cell? p = some (.int .u8 L)
  c1 : w.cell? ⟨p.block, p.off + 1, none⟩ = some (.int .i64 N)
  c2 : w.cell? ⟨p.block, p.off + 2, none⟩ = some (.int .i64 D)
  bel : Below w0.heap.size w0 w
  lt : p.block < w0.heap.size
theorem Held.below {w0 w w' : World} {p : Addr} {L N D : Int} (h : Held w0 p L N D w) (hb : Below w.heap.size w w') : Held w0 p L N D w' := by
  obtain ⟨h0, h1, h2, h3, h4⟩ := h
  have hlt : p.block < w.heap.size := Nat.lt_of_lt_of_le h4 h3.size
  exact ⟨(hb.cell hlt).trans h0, (hb.cell (p := ⟨p.block, p.off + 1, none⟩) hlt).trans h1, (hb.cell (p := ⟨p.block, p.off + 2, none⟩) hlt).trans h2, h3.trans (hb.mono h3.size), h4⟩
theorem Held.drew {w0 w : World} {p : Addr} {L N D : Int} (h : Held w0 p L N D w) : Held w0 p L N D w.drew := ⟨h.c0, h.c1, h.c2, h.bel.drew, h.lt⟩
theorem sound_heldc {L N D : Int} {b : Bool} (hb : soundB L N D = b) {w0 : World} {p : Addr} {w : World} (h : Held w0 p L N D w) : Calls Try.prog 29 #[.agg #[.int .u8 L, .int .i64 N, .int .i64 D]] w fun e w' => e = .returned (.bool b) ∧ Held w0 p L N D w' := by
  subst hb
  refine (sound_any L N D w).mono ?_
  rintro e w' ⟨rfl, hb⟩
  exact ⟨rfl, h.below hb⟩
theorem rsound_heldc {L N D : Int} {b : Bool} (hb : soundB L N D = b) {w0 : World} {p : Addr} {w : World} (h : Held w0 p L N D w) : Calls Try.prog 30 #[.agg #[.int .u8 L, .int .i64 N, .int .i64 D]] w fun e w' => e = .returned (.bool b) ∧ Held w0 p L N D w' := by
  subst hb
  refine (rsound_any L N D w).mono ?_
  rintro e w' ⟨rfl, hb⟩
  exact ⟨rfl, h.below hb⟩
theorem Held.s {w0 w : World} {p : Addr} {L N D : Int} (h : Held w0 p L N D w) : w.cell? p = some (.int .u8 L) ∧ w.cell? ⟨p.block, p.off + 1, none⟩ = some (.int .i64 N) ∧ w.cell? ⟨p.block, p.off + 2, none⟩ = some (.int .i64 D) ∧ Held w0 p L N D w := ⟨h.c0, h.c1, h.c2, h⟩

set_option maxRecDepth 100000 in
set_option maxHeartbeats 8000000 in
theorem tokenExpands_walk (A : Option Addr) (n c : Nat) (l : List Tok) (w : World) (hr : RdT w w.heap.size A n l) (hn : n ≤ maxLen) :
    Calls Try.prog 9 #[.slice A n c] w fun e w' => e = .returned (.bool true) ∧ Below w.heap.size w w' := by
  by_cases hbig : 500 < (n : Int)
  · clear hn
    go_enter Try.func9, Try.ntmps9
    go_wp2_with fail
    refine (answers8_any _).mono ?_
    rintro e w1 ⟨rfl, hb⟩
    go_wp2
    go_ret
    exact ⟨rfl, hb⟩
  · have hnN : n ≤ 500 := by omega
    clear hn
    obtain ⟨i0, hi, hz0, hz1, hz2⟩ := info_parts wtok_info
    have Hi := Lib.hid hi
    have Hz0 := Lib.hid hz0
    have Hz1 := Lib.hid hz1
    have Hz2 := Lib.hid hz2
    clear hi hz0 hz1 hz2
    obtain ⟨E, hE⟩ : ∃ E : Int, (expand [] l).1 = E := ⟨_, rfl⟩
    have HE := Lib.hid hE
    clear hE
    have hle : (expand [] l).2.length ≤ 16777216 := expand_le (by simp)
    have HLE := Lib.hid hle
    clear hle
    go_enter Try.func9, Try.ntmps9
    have hba := (Below.refl w.heap.size w).alloc (Nat.le_refl _) (.cells #[] 52)
    have hra := hr.below hba
    go_wp2_with (at_builtin; (refine wpList_appT w.heap.size i0 rfl (.tmp 13) (.tmp 14) rfl Hi.out Hz0.out Hz1.out Hz2.out rfl (OwnT.nil0 w _ (Nat.le_refl _)) rfl hra (by omega) (by have := hba.size; exact this) ?_)
                 intro A2 c2 w2 hown2 hg2 hat2
                 have hb2 := hba.grown hg2 hba.size (fun q hq => by simp [blkOf] at hq; omega)
                 rw [Nat.zero_add, List.nil_append] at hown2)
    refine (expand_any w2 A2 n c2 _ hown2.rd (by omega)).mono ?_
    rintro e w3 ⟨A3, n3, c3, rfl, ho3, hb3⟩
    rw [HE.out]
    have hbw3 := hb2.trans (hb3.mono hb2.size)
    have hr3 := hr.below hbw3
    go_wp2_with fail
    refine (rexpand_any w3 A n c l (hr3.more hbw3.size) (by omega)).mono ?_
    rintro e w4 ⟨A4, n4, c4, rfl, ho4, hb4⟩
    rw [HE.out]
    have hbw4 := hbw3.trans (hb4.mono hbw3.size)
    have hx4 := ho3.keeps hb4
    go_wp2_with fail
    go_loopw [7] (fun i wr => ∃ k : Nat, k ≤ n ∧ i = .int .i64 k ∧ Below w4.heap.size w4 wr) (fun i _ => n - (intOf i).toNat)
    case atStart => exact ⟨0, Nat.zero_le _, rfl, Below.refl _ _⟩
    case round =>
      obtain ⟨k, hk, rfl, hbr⟩ := hrel
      have hbwr := hbw4.trans (hbr.mono hbw4.size)
      by_cases hlt : k < n
      · obtain ⟨ad, rfl, hbl, hcs⟩ := hr.2 (by omega)
        have hk0 : (0 : Int) ≤ k ∧ (k : Int) < n := by omega
        obtain ⟨a0, a1, a2⟩ := hcs k hlt
        rw [addr_next _ _ _ (by omega)] at a1 a2
        obtain ⟨⟨L, N, D⟩, ht⟩ : ∃ t : Tok, tokAt l k = t := ⟨_, rfl⟩
        rw [ht] at a0 a1 a2
        clear ht hcs
        have hab : (ad.add (k * 3)).block < w.heap.size := by rw [addr_block]; exact hbl
        have HH : Held wr (ad.add (k * 3)) L N D wr := ⟨(hbwr.cell hab).trans a0, (hbwr.cell (p := ⟨(ad.add (k * 3)).block, (ad.add (k * 3)).off + 1, none⟩) hab).trans a1, (hbwr.cell (p := ⟨(ad.add (k * 3)).block, (ad.add (k * 3)).off + 2, none⟩) hab).trans a2, Below.refl _ _, Nat.lt_of_lt_of_le hab hbwr.size⟩
        clear a0 a1 a2
        obtain ⟨b, hbb⟩ : ∃ b : Bool, soundB L N D = b := ⟨_, rfl⟩
        have HBB := Lib.hid hbb
        clear hbb
        have hs0 := HH.s
        go_wp2
        go_region_held3 (fun w' => w'.cell? (ad.add (k * 3)) = some (.int .u8 L) ∧ w'.cell? ⟨(ad.add (k * 3)).block, (ad.add (k * 3)).off + 1, none⟩ = some (.int .i64 N) ∧ w'.cell? ⟨(ad.add (k * 3)).block, (ad.add (k * 3)).off + 2, none⟩ = some (.int .i64 D) ∧ Held wr (ad.add (k * 3)) L N D w')
          (first | exact Held.s hh7 | exact Held.s hh8 | exact Held.s HH | exact Held.s HH.drew)
          (first | (go_at_call 29; (refine (sound_heldc HBB.out (w0 := wr) (p := ad.add (k * 3)) (by first | exact hh8 | exact HH | exact HH.drew)).mono ?_); rintro e w7 ⟨rfl, hh7⟩) | (go_at_call 30; (refine (rsound_heldc HBB.out (w0 := wr) (p := ad.add (k * 3)) (by first | exact hh7 | exact HH | exact HH.drew)).mono ?_); rintro e w8 ⟨rfl, hh8⟩))
        all_goals
          go_wp2
          go_roundw
          case rel => exact ⟨k + 1, by omega, by go_num, hbr.trans (Below.mono (by first | exact hh8.bel | exact hh7.bel) hbr.size)⟩
          case measure => simp [intOf]; omega
      · obtain rfl : n = k := by omega
        have hx5 := hx4.keeps hbr
        have hy5 := ho4.keeps hbr
        obtain ⟨X, hX⟩ : ∃ X, (expand [] l).2 = X := ⟨_, rfl⟩
        have hn3 : Hid ((n3 : Int) ≤ 1000000000) := by
          have h1 := hx4.1
          have h2 := HLE.out
          rw [← h1] at h2
          show _ ≤ _
          omega
        rw [hX] at hx5 hy5
        clear hX
        go_wp2_with fail
        refine (answers8_any _).mono ?_
        rintro e w5 ⟨rfl, hb6⟩
        have hx6 := hx5.keeps hb6
        have hy6 := hy5.keeps hb6
        have hb7 := hbwr.trans (hb6.mono hbwr.size)
        go_wp2_with fail
        refine (same_any w5 w5.heap.size n3 _ n4 _ _ _ _ X hx6.rd hy6.rd hn3.out rfl).mono ?_
        rintro e w6 ⟨rfl, q, rfl⟩
        go_wp2
        go_ret
        exact ⟨rfl, below_drewN hb7 q⟩
end Go.Proofs.Ytbcmiahggfgjjaa
