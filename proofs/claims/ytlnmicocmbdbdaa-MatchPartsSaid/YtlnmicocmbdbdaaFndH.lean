/-
  The walks of the finder's New and of match.Tokens.
-/
import Derived.Test.YtlnmicocmbdbdaaFndF
import Derived.Test.YtlnmicocmbdbdaaFndG
namespace Go.Proofs.Ytlnmicocmbdbdaa
open Go.RowKit Go.Maps
set_option linter.unusedVariables false

set_option maxHeartbeats 4000000 in
theorem of_any (level : Int) (w : World) (hl : -9223372036854775808 ≤ level ∧ level ≤ 9223372036854775807) : Calls Try.prog 19 #[.int .i64 level] w fun r w' => r = .returned (.agg #[.int .i64 (effOf level).chain, .int .i64 (effOf level).nice, .bool (effOf level).lazy]) ∧ Below w.heap.size w w' := by
  have hcs : level < 0 ∨ level = 0 ∨ level = 1 ∨ level = 2 ∨ level = 3 ∨ level = 4 ∨ level = 5 ∨ level = 6 ∨ level = 7 ∨ level = 8 ∨ level = 9 ∨ 9 < level := by omega
  rcases hcs with h | h | h | h | h | h | h | h | h | h | h | h
  · have hE : Hid (effOf level = ⟨0, 0, false⟩) := by show _ = _; unfold effOf; rw [if_pos (by omega)]
    go_enter Try.func19, Try.ntmps19
    go_wp2_with fail
    all_goals
      go_returns
      rw [hE.out]
      exact ⟨rfl, (Below.refl _ _).alloc (Nat.le_refl _) _⟩
  · subst h
    have hE : Hid (effOf 0 = ⟨0, 0, false⟩) := rfl
    go_enter Try.func19, Try.ntmps19
    go_wp2_with fail
    all_goals
      go_returns
      rw [hE.out]
      exact ⟨rfl, (Below.refl _ _).alloc (Nat.le_refl _) _⟩
  · subst h
    have hE : Hid (effOf 1 = ⟨4, 8, false⟩) := rfl
    go_enter Try.func19, Try.ntmps19
    go_wp2_with fail
    all_goals
      go_returns
      rw [hE.out]
      exact ⟨rfl, (Below.refl _ _).alloc (Nat.le_refl _) _⟩
  · subst h
    have hE : Hid (effOf 2 = ⟨8, 16, false⟩) := rfl
    go_enter Try.func19, Try.ntmps19
    go_wp2_with fail
    all_goals
      go_returns
      rw [hE.out]
      exact ⟨rfl, (Below.refl _ _).alloc (Nat.le_refl _) _⟩
  · subst h
    have hE : Hid (effOf 3 = ⟨16, 32, false⟩) := rfl
    go_enter Try.func19, Try.ntmps19
    go_wp2_with fail
    all_goals
      go_returns
      rw [hE.out]
      exact ⟨rfl, (Below.refl _ _).alloc (Nat.le_refl _) _⟩
  · subst h
    have hE : Hid (effOf 4 = ⟨16, 16, true⟩) := rfl
    go_enter Try.func19, Try.ntmps19
    go_wp2_with fail
    all_goals
      go_returns
      rw [hE.out]
      exact ⟨rfl, (Below.refl _ _).alloc (Nat.le_refl _) _⟩
  · subst h
    have hE : Hid (effOf 5 = ⟨24, 32, true⟩) := rfl
    go_enter Try.func19, Try.ntmps19
    go_wp2_with fail
    all_goals
      go_returns
      rw [hE.out]
      exact ⟨rfl, (Below.refl _ _).alloc (Nat.le_refl _) _⟩
  · subst h
    have hE : Hid (effOf 6 = ⟨32, 128, true⟩) := rfl
    go_enter Try.func19, Try.ntmps19
    go_wp2_with fail
    all_goals
      go_returns
      rw [hE.out]
      exact ⟨rfl, (Below.refl _ _).alloc (Nat.le_refl _) _⟩
  · subst h
    have hE : Hid (effOf 7 = ⟨64, 128, true⟩) := rfl
    go_enter Try.func19, Try.ntmps19
    go_wp2_with fail
    all_goals
      go_returns
      rw [hE.out]
      exact ⟨rfl, (Below.refl _ _).alloc (Nat.le_refl _) _⟩
  · subst h
    have hE : Hid (effOf 8 = ⟨128, 258, true⟩) := rfl
    go_enter Try.func19, Try.ntmps19
    go_wp2_with fail
    all_goals
      go_returns
      rw [hE.out]
      exact ⟨rfl, (Below.refl _ _).alloc (Nat.le_refl _) _⟩
  · subst h
    have hE : Hid (effOf 9 = ⟨256, 258, true⟩) := rfl
    go_enter Try.func19, Try.ntmps19
    go_wp2_with fail
    all_goals
      go_returns
      rw [hE.out]
      exact ⟨rfl, (Below.refl _ _).alloc (Nat.le_refl _) _⟩
  · have hE : Hid (effOf level = ⟨256, 258, true⟩) := by show _ = _; unfold effOf; rw [if_neg (by omega), if_neg (by omega), if_neg (by omega), if_neg (by omega), if_neg (by omega), if_neg (by omega), if_neg (by omega), if_neg (by omega), if_neg (by omega)]
    go_enter Try.func19, Try.ntmps19
    go_wp2_with fail
    all_goals
      go_returns
      rw [hE.out]
      exact ⟨rfl, (Below.refl _ _).alloc (Nat.le_refl _) _⟩
def NewPost (w : World) (e : Eff) (r : Ending) (w' : World) : Prop := ∃ (g gm : Nat), r = .returned (.pointer (some ⟨g, 0, none⟩)) ∧ FndC w' w.heap.size g e newF 0 none 0 0 gm 0 (.map []) none 0 0 ∧ Below w.heap.size w w'
set_option maxHeartbeats 1600000 in
theorem fnew_any (level : Int) (w : World) (hl : -9223372036854775808 ≤ level ∧ level ≤ 9223372036854775807) : Calls Try.prog 13 #[.int .i64 level] w (NewPost w (effOf level)) := by
  have hmm := @run_makeMap Try.prog
  have heb := effOf_bd level
  obtain ⟨E, hE⟩ : ∃ E, effOf level = E := ⟨_, rfl⟩
  have hof := of_any level w hl
  rw [hE] at hof heb ⊢
  clear hE
  go_enter Try.func13, Try.ntmps13
  go_wp2_with fail
  refine hof.mono ?_
  rintro r w1 ⟨rfl, hb1⟩
  obtain ⟨ch, nc, lz⟩ := E
  dsimp only at heb ⊢
  have hmap := World.ownsMap_made (H := Unit) w1 Try.prog 61 (plainElem Try.prog 3)
  go_wp2_with fail
  go_returns
  refine ⟨w1.heap.size + 1, w1.heap.size, rfl, ⟨?_, by have := hb1.size; omega, OwnI.nil_, OwnI.nil_, hmap.alloc _, HeadRep.new, hb1.size, Nat.le_refl _, by simp [blkOf], by simp [blkOf], by omega, by simp [blkOf], by simp [blkOf], by simp [blkOf], Ok.new, fun x hx => by simp [newF] at hx, heb, by simp [newF]⟩, (hb1.alloc hb1.size _).alloc (by have := hb1.size; simp; omega) _⟩
  have hsz : (w1.alloc (.map #[] 0)).heap.size = w1.heap.size + 1 := by simp
  rw [← hsz]
  exact Ar.new _ _ _ rfl fun i hi => by
    obtain rfl | rfl | rfl | rfl | rfl | rfl | rfl | rfl : i = 0 ∨ i = 1 ∨ i = 2 ∨ i = 3 ∨ i = 4 ∨ i = 5 ∨ i = 6 ∨ i = 7 := by omega
    all_goals rfl
def MTokPost (w : World) (e : Eff) (x : List Int) (r : Ending) (w' : World) : Prop :=
  ∃ (l : List Tok) (st' : FSt) (A : Option Addr) (n c : Nat), r = .returned (.slice A n c) ∧ Run e 0 (writeF newF x) l st' ∧ st'.at_ = st'.D.length ∧ OwnT w' w.heap.size A n c l ∧ Below w.heap.size w w'
set_option maxHeartbeats 1600000 in
theorem mtok_any (level : Int) (w : World) (hl : -9223372036854775808 ≤ level ∧ level ≤ 9223372036854775807) {B m d : Nat} {C : Option Addr} {x : List Int} (hr : RdI .u8 w B C m x) (hB : B ≤ w.heap.size) (hby : ∀ v ∈ x, 0 ≤ v ∧ v < 256) (hlen : m ≤ 100000000000) :
    Calls Try.prog 10 #[.slice C m d, .int .i64 level] w (MTokPost w (effOf level) x) := by
  go_enter Try.func10, Try.ntmps10
  go_wp2_with fail
  refine (fnew_any level w hl).mono ?_
  rintro r w1 ⟨g, gm, rfl, hf1, hb1⟩
  go_wp2_with fail
  refine (fwrite_any (st := newF) hf1 (hr.below (hb1.mono hB)) (Nat.le_trans hB hb1.size) hby (by simp [newF]; exact hlen)).mono ?_
  rintro r w2 ⟨rfl, A2, n2, c2, Ap2, np2, cp2, nm2, Dm2, hf2, hc2, hF2⟩
  have hb2 := hb1.trans (hc2.below (fun k hk => (hf1.foot_lo hk).1) hb1.size)
  go_wp2_with fail
  refine (mtokens_any true hf2).mono ?_
  rintro r w3 ⟨l, st', A3, n3, c3, rfl, hrun, hleft, ho3, ⟨nm3, Dm3, hf3⟩, hc3⟩
  have hb3 := hb2.trans (hc3.below (fun k hk => (hf2.foot_lo hk).1) hb2.size)
  have hend : st'.at_ = st'.D.length := by have := hf3.ok.hi; simp at hleft; omega
  go_wp2_with fail
  go_returns
  exact ⟨l, st', A3, n3, c3, rfl, hrun, hend, ⟨ho3.1, ho3.2.more (by exact hb2.size)⟩, hb3⟩
end Go.Proofs.Ytlnmicocmbdbdaa
