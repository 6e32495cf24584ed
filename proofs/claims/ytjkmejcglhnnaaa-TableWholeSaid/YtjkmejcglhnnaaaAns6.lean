/-
  The walk of the statements' own answers, layer 06.
-/
import Derived.Test.YtjkmejcglhnnaaaProg
import Derived.Test.YtjkmejcglhnnaaaTabN
namespace Go.Proofs.Ytjkmejcglhnnaaa
open Go.RowKit
set_option linter.unusedVariables false

set_option maxHeartbeats 1600000 in
theorem answers6_any (w : World) : Calls Try.prog 7 #[] w fun e w' => e = .returned (.bool true) ∧ Below w.heap.size w w' := by
  have hck : checkOf [2, 1, 3, 3] 15 = 0 := by decide
  go_enter Try.func7, Try.ntmps7
  go_wp2_with fail
  refine (build_ok _ _ _ _ _ [2, 1, 3, 3] 15 (RdI.lit .i64 w [2, 1, 3, 3] 3) (by simp) (by decide) hck).mono ?_
  rintro e w1 ⟨gt, rfl, ht1, hb1⟩
  have hb1 : Below w.heap.size w w1 := ((Below.refl _ w).alloc (Nat.le_refl _) _).trans (hb1.mono (by simp))
  go_wp2_with fail
  refine (rdrNew_any _).mono ?_
  rintro e w2 ⟨gr, rfl, hr2, hb2⟩
  have ht2 := ht1.keeps (Nat.le_refl _) hb2
  have hbw2 := hb1.trans (hb2.mono hb1.size)
  go_wp2_with fail
  have ht3 := ht2.keeps hb2.size ((Below.refl _ w2).alloc (Nat.le_refl _) (.cells #[.int .u8 6] 5))
  have hr3 := hr2.keeps ((Below.refl _ w2).alloc (Nat.le_refl _) (.cells #[.int .u8 6] 5))
  have hbw3 := hbw2.alloc hbw2.size (.cells #[.int .u8 6] 5)
  have hgr := hr2.lo
  refine (rdrFeed_any _ _ _ _ _ _ _ _ _ _ _ _ [6] hr3 (RdI.lit .u8 w2 [6] 5) (by simp) (by decide) (by decide)).mono ?_
  rintro e w4 ⟨A4, n4, c4, rfl, hr4, hg4, hA4⟩
  have ht4 := ht3.chg hg4 (by have := hb2.size; simp; omega) (fun k h1 h2 h3 => by omega)
  have hbw4 := hbw3.trans (hg4.below (fun q hq => hq ▸ Nat.le_trans hb1.size hgr) hbw3.size)
  rw [show ([] : List Int).drop (0 / 8) ++ [6] = [6] from rfl, show 0 % 8 = 0 from rfl] at hr4
  have hnx : nextOf [2, 1, 3, 3] (rb [6] 0) = (1, 1, 0) := by decide
  go_wp2_with fail
  refine (next_any _ _ _ _ _ _ _ _ _ _ _ _ ht4 (by decide) hr4 (by decide) (by have := hb2.size; have := hg4.size; simp at this; omega) (fun k h1 h2 => by omega)).mono ?_
  rintro e w5 ⟨rfl, hr5, hg5⟩
  rw [hnx]
  have hbw5 := hbw4.trans (hg5.below (fun q hq => hq ▸ Nat.le_trans hb1.size hgr) hbw4.size)
  go_wp2
  go_ret
  exact ⟨rfl, hbw5⟩
end Go.Proofs.Ytjkmejcglhnnaaa
