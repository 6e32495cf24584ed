/-
  The walk of the decoder's step.
-/
import Derived.Test.YtjeedkjgjfbndaaInfC
import Derived.Test.YtjeedkjgjfbndaaInfH
import Derived.Test.YtjeedkjgjfbndaaInfJ
import Derived.Test.YtjeedkjgjfbndaaInfK
namespace Go.Proofs.Ytjeedkjgjfbndaa
open Go.RowKit
set_option linter.unusedVariables false
section
variable {w w' w0 w2 : World} {b0 g : Nat} {c c0 : Nat → Nat} {M M' : DM} {S S' : DS} {s t t' : IS} {b : List Int} {v : Int}
theorem done_step (h : s.st = 8) : s.step = (s, 8) := by unfold IS.step; rw [if_neg (by omega), if_neg (by omega), if_neg (by omega), if_neg (by omega), if_neg (by omega), if_neg (by omega), if_neg (by omega), if_neg (by omega)]
set_option maxRecDepth 100000 in
set_option maxHeartbeats 4000000 in
theorem dstep_any (h : InfS w0 c0 w b0 g M S) (hL : Live M S s) (hO : s.Ok) (want : Int) (hw : 1 ≤ want) (hw2 : want ≤ 4611686018427387904) (hlo : M.out.length ≤ 10000000000) (hmost : (s.rem : Int) ≤ 4611686018427387904) :
    Calls Try.prog 21 #[.pointer (some ⟨g, 0, none⟩), .int .i64 want] w (StepPost w0 c0 b0 g M s) := by
  obtain ⟨-, -, -, -, -, k5, -⟩ := h.cells
  have h8 := hO.st8
  rw [hL.st] at k5
  have hcs : s.st = 0 ∨ s.st = 1 ∨ s.st = 2 ∨ s.st = 3 ∨ s.st = 4 ∨ s.st = 5 ∨ s.st = 6 ∨ s.st = 7 ∨ s.st = 8 := by omega
  clear h8
  rcases hcs with hst | hst | hst | hst | hst | hst | hst | hst | hst
  all_goals
    rw [hst] at k5
  · have hc := Lib.hid (dblock_any h hL hO hst)
    clear hst
    go_enter Try.func21, Try.ntmps21
    go_wp2_with fail
    refine hc.out.mono ?_
    rintro e w1 hp
    obtain ⟨_, _, _, v, _, rfl, _⟩ := id hp
    go_wp2_with fail
    go_ret
    exact hp
  · have hc := Lib.hid (dsize_any h hL hO hst)
    clear hst
    go_enter Try.func21, Try.ntmps21
    go_wp2_with fail
    refine hc.out.mono ?_
    rintro e w1 hp
    obtain ⟨_, _, _, v, _, rfl, _⟩ := id hp
    go_wp2_with fail
    go_ret
    exact hp
  · have hc := Lib.hid (dstored_any h hL hO hst want hw hw2 hlo hmost)
    clear hst
    go_enter Try.func21, Try.ntmps21
    go_wp2_with fail
    refine hc.out.mono ?_
    rintro e w1 hp
    obtain ⟨_, _, _, v, _, rfl, _⟩ := id hp
    go_wp2_with fail
    go_ret
    exact hp
  · have hc := Lib.hid (dsizes_any h hL hO hst)
    clear hst
    go_enter Try.func21, Try.ntmps21
    go_wp2_with fail
    refine hc.out.mono ?_
    rintro e w1 hp
    obtain ⟨_, _, _, v, _, rfl, _⟩ := id hp
    go_wp2_with fail
    go_ret
    exact hp
  · have hc := Lib.hid (dheads_any h hL hO hst)
    clear hst
    go_enter Try.func21, Try.ntmps21
    go_wp2_with fail
    refine hc.out.mono ?_
    rintro e w1 hp
    obtain ⟨_, _, _, v, _, rfl, _⟩ := id hp
    go_wp2_with fail
    go_ret
    exact hp
  · have hc := Lib.hid (dlengths_any h hL hO hst)
    clear hst
    go_enter Try.func21, Try.ntmps21
    go_wp2_with fail
    refine hc.out.mono ?_
    rintro e w1 hp
    obtain ⟨_, _, _, v, _, rfl, _⟩ := id hp
    go_wp2_with fail
    go_ret
    exact hp
  · have hc := Lib.hid (dtoken_any h hL hO hst hlo hmost)
    clear hst
    go_enter Try.func21, Try.ntmps21
    go_wp2_with fail
    refine hc.out.mono ?_
    rintro e w1 hp
    obtain ⟨_, _, _, v, _, rfl, _⟩ := id hp
    go_wp2_with fail
    go_ret
    exact hp
  · have hc := Lib.hid (ddistance_any h hL hO hst hlo hmost)
    clear hst
    go_enter Try.func21, Try.ntmps21
    go_wp2_with fail
    refine hc.out.mono ?_
    rintro e w1 hp
    obtain ⟨_, _, _, v, _, rfl, _⟩ := id hp
    go_wp2_with fail
    go_ret
    exact hp
  · have hds := Lib.hid (done_step hst)
    clear hst
    go_enter Try.func21, Try.ntmps21
    go_wp2_with fail
    go_ret
    exact ⟨M, S, s, 8, [], rfl, h, hL.err, by simp, by simp, by simp, .inr (.inr ⟨by decide, by decide, by rw [IS.fin_stop (by rw [hds.out]; simp), hds.out], fun _ => hL⟩)⟩
end
end Go.Proofs.Ytjeedkjgjfbndaa
