/-
  The walk of the reference's SameTokens.
-/
import Derived.Test.YtlnmicocmbdbdaaProg
import Derived.Test.YtlnmicocmbdbdaaTokL
namespace Go.Proofs.Ytlnmicocmbdbdaa
open Go.RowKit
set_option linter.unusedVariables false

set_option maxHeartbeats 1600000 in
theorem sameT_any (w : World) (B C n c m d : Nat) (A A' : Option Addr) (l b : List Tok) (hl : RdT w B A n l) (hb : RdT w C A' m b) (hn : (n : Int) ≤ 1000000000) (he : l = b) :
    Calls Try.prog 17 #[.slice A n c, .slice A' m d] w fun e w' => e = .returned (.bool true) ∧ ∃ q, w' = w.drewN q := by
  have hnm : n = m := by rw [hl.1, hb.1, he]
  subst hnm
  subst he
  go_enter Try.func17, Try.ntmps17
  go_wp2
  go_loopw [5] (fun i wr => ∃ k q : Nat, k ≤ n ∧ i = .int .i64 k ∧ wr = w.drewN q) (fun i _ => n - (intOf i).toNat)
  case atStart => exact ⟨0, 0, Nat.zero_le _, rfl, rfl⟩
  case round =>
    obtain ⟨k, q, hk, rfl, rfl⟩ := hrel
    by_cases hlt : k < n
    · obtain ⟨ad, rfl, _, hc⟩ := hl.2 (by omega)
      obtain ⟨ad2, rfl, _, hc2⟩ := hb.2 (by omega)
      obtain ⟨a0, a1, a2⟩ := hc k hlt
      obtain ⟨b0, b1, b2⟩ := hc2 k hlt
      have hk0 : (0 : Int) ≤ k ∧ (k : Int) < n := by omega
      rw [addr_next _ _ _ (by omega)] at a1 a2 b1 b2
      obtain ⟨⟨L, N, D⟩, ht⟩ : ∃ t : Tok, tokAt l k = t := ⟨_, rfl⟩
      rw [ht] at a0 a1 a2 b0 b1 b2
      dsimp only at a0 a1 a2 b0 b1 b2
      clear ht hc hc2
      go_wp2
      go_quiet (fail)
      go_wp2
      go_roundw
      case rel => exact ⟨k + 1, _, by omega, by go_num, rfl⟩
      case measure => simp [intOf]; omega
    · obtain rfl : n = k := by omega
      go_wp2
      go_ret
      exact ⟨rfl, _, rfl⟩
end Go.Proofs.Ytlnmicocmbdbdaa
