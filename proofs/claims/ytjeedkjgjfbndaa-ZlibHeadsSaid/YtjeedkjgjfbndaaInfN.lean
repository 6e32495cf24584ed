/-
  The walks of the decoder's New and Feed; what a decoder is between calls.
-/
import Derived.Test.YtjeedkjgjfbndaaInfB
import Derived.Deep.CutBlock
namespace Go.Proofs.Ytjeedkjgjfbndaa
open Go.RowKit
set_option linter.unusedVariables false
section
variable {w w' w0 w2 : World} {b0 g : Nat} {c c0 : Nat → Nat} {M M' : DM} {S S' : DS} {s t t' : IS} {b : List Int} {v : Int}
/-- It goes on, at the state s: the whole ends as F says, a has come out. -/
structure Alive (F : IS × Int) (a : List Int) (M : DM) (S : DS) (s : IS) : Prop where
  live : Live M S s
  ok : s.Ok
  fin : s.fin = F
  all : s.all = a
  rem : s.rem ≤ 4611686018427387904
/-- It has ended. -/
structure Ended (F : IS × Int) (a : List Int) (M : DM) (S : DS) : Prop where
  err : S.err = F.2
  ne : F.2 ≠ 0 ∧ F.2 ≠ 5
  all : F.1.all = a
  at8 : F.2 = 8 → Live M { S with err := 0 } F.1 ∧ F.1.Ok
def NewPost (w : World) (m : Nat) (e : Ending) (w' : World) : Prop :=
  ∃ g c M S, e = .returned (.pointer (some ⟨g, 0, none⟩)) ∧ InfM w' w.heap.size g c M S ∧ Below w.heap.size w w' ∧ M.B = [] ∧ M.a = 0 ∧ M.out = [] ∧ Live M S (start [] m)
theorem Live.new (gi gw m : Nat) : Live ⟨gi, none, 0, 0, [], 0, gw, none, 0, 0, [], none, 0, 0, [], none, 0, 0, [], none, none, none, none, none, none⟩ ⟨m, 0, 0, false, 0, 0, 0, 0, 0⟩ (start [] m) :=
  ⟨rfl, rfl, rfl, rfl, rfl, rfl, rfl, rfl, fun e => by simp [start] at e, fun e => by simp [start] at e, fun e => by simp [start] at e, fun e => by simp [start] at e, Tail.nil_, rfl, rfl⟩
set_option maxRecDepth 100000 in
set_option maxHeartbeats 4000000 in
theorem dnew_any (w : World) (most : Int) (m : Nat) (hm : (m : Int) = max most 0) :
    Calls Try.prog 15 #[.int .i64 most] w (NewPost w m) := by
  have hfin : Hid (∀ gi gw w1 w2 (v : Int), v = (m : Int) → Rdr w1 w.heap.size gi none 0 0 [] 0 → Below w.heap.size w w1 → Win w2 w1.heap.size gw none 0 0 [] → Below w1.heap.size w1 w2 →
      NewPost w m (.returned (.pointer (some ⟨w2.heap.size, 0, none⟩))) (w2.alloc (.cells #[.pointer (some ⟨gi, 0, none⟩), .pointer (some ⟨gw, 0, none⟩), .int .i64 v, .slice none 0 0, .int .i64 0, .int .i64 0, .bool false, .int .i64 0, .int .i64 0, .int .i64 0, .int .i64 0, .slice none 0 0, .pointer none, .pointer none, .pointer none, .int .i64 0] 41))) := fun gi gw w1 w2 v hv hr1 hb1 hw2 hb2 => by
    subst hv
    have hgi := hr1.cell.lt
    have hgil := hr1.lo
    have hgw := hw2.cell.lt
    have hgwl := hw2.lo
    have hs1 := hb1.size
    have hs2 := hb2.size
    have hb3 : Below w2.heap.size w2 (w2.alloc (.cells #[.pointer (some ⟨gi, 0, none⟩), .pointer (some ⟨gw, 0, none⟩), .int .i64 m, .slice none 0 0, .int .i64 0, .int .i64 0, .bool false, .int .i64 0, .int .i64 0, .int .i64 0, .int .i64 0, .slice none 0 0, .pointer none, .pointer none, .pointer none, .int .i64 0] 41)) := (Below.refl _ w2).alloc (Nat.le_refl _) _
    refine ⟨w2.heap.size, fun k => if k = w2.heap.size then 1 else if k = gi then 2 else if k = gw then 3 else 0, ⟨gi, none, 0, 0, [], 0, gw, none, 0, 0, [], none, 0, 0, [], none, 0, 0, [], none, none, none, none, none, none⟩, ⟨m, 0, 0, false, 0, 0, 0, 0, 0⟩, rfl, ?_, (hb1.trans (hb2.mono hs1)).trans (hb3.mono (Nat.le_trans hs1 hs2)), rfl, rfl, rfl, Live.new gi gw m⟩
    have hr3 := (hr1.keeps hb2).keeps hb3
    have hw3 := hw2.keeps hb3
    refine ⟨Ar.new w2 _ _ rfl (all16 rfl rfl rfl rfl rfl rfl rfl rfl rfl rfl rfl rfl rfl rfl rfl rfl), if_pos rfl, hr3, ?_, ⟨hw3.cell, by show w.heap.size ≤ gw; omega, hw3.own.more hs1, hw3.apart, hw3.len⟩, ?_, OwnI.nil_, fun k hk => by simp [blkOf] at hk, OwnI.nil_, fun k hk => by simp [blkOf] at hk, fun l hl => by simp at hl, fun l hl => by simp at hl, fun l hl => by simp at hl, ?_, by simp⟩
    · intro k hk
      rcases hk with rfl | hk
      · show (if _ then _ else _) = 2
        rw [if_neg (by omega), if_pos rfl]
      · simp [blkOf] at hk
    · intro k hk
      rcases hk with rfl | hk
      · show (if _ then _ else _) = 3
        rw [if_neg (by omega), if_neg (by omega), if_pos rfl]
      · simp [blkOf] at hk
    · intro k hk
      rw [show (w2.alloc (.cells #[.pointer (some ⟨gi, 0, none⟩), .pointer (some ⟨gw, 0, none⟩), .int .i64 m, .slice none 0 0, .int .i64 0, .int .i64 0, .bool false, .int .i64 0, .int .i64 0, .int .i64 0, .int .i64 0, .slice none 0 0, .pointer none, .pointer none, .pointer none, .int .i64 0] 41)).heap.size = w2.heap.size + 1 by simp]
      split at hk
      · omega
      · split at hk
        · omega
        · split at hk
          · omega
          · exact absurd rfl hk
  have hcs : (most < 0 ∧ m = 0) ∨ (0 < most ∧ (m : Int) = most) ∨ (most = 0 ∧ m = 0) := by omega
  clear hm
  rcases hcs with ⟨h1, h2⟩ | ⟨h1, h2⟩ | ⟨h1, h2⟩
  all_goals
    have H2 := Lib.hid h2
    clear h2
    try subst h1
    go_enter Try.func15, Try.ntmps15
    go_wp2_with fail
    refine (rdrNew_any _).mono ?_
    rintro e w1 ⟨gi, rfl, hr1, hb1⟩
    go_wp2_with fail
    refine (winNew_any _).mono ?_
    rintro e w2 ⟨gw, rfl, hw2, hb2⟩
    go_wp2_with fail
    go_ret
    exact hfin.out gi gw w1 w2 _ (by have := H2.out; omega) hr1 hb1 hw2 hb2
theorem dfeed_nil (w : World) (v : Value) : Calls Try.prog 9 #[.pointer none, v] w fun e w' => e = .returned (.tuple #[]) ∧ w = w' := by
  go_enter Try.func9, Try.ntmps9
  go_wp2
  go_end0
  exact ⟨rfl, rfl⟩
def DFeedPost (w0 : World) (c0 : Nat → Nat) (b0 g : Nat) (M : DM) (S : DS) (b : List Int) (e : Ending) (w' : World) : Prop :=
  ∃ A' n' c', e = .returned (.tuple #[]) ∧ InfS w0 c0 w' b0 g { M with Ai := A', ni := n', ci := c', B := M.B.drop (M.a / 8) ++ b, a := M.a % 8 } S
theorem dfeed_any (h : InfS w0 c0 w b0 g M S) (Bd m d : Nat) (C : Option Addr) (b : List Int) (hr : RdI .u8 w Bd C m b) (hB : Bd ≤ w.heap.size) (hby : ∀ x ∈ b, 0 ≤ x ∧ x < 256) (hlen : M.B.length + b.length ≤ 100000000000) :
    Calls Try.prog 9 #[.pointer (some ⟨g, 0, none⟩), .slice C m d] w (DFeedPost w0 c0 b0 g M S b) := by
  obtain ⟨k0, -⟩ := h.cells
  go_enter Try.func9, Try.ntmps9
  go_wp2_with fail
  refine (rdrFeed_any _ _ _ _ _ _ _ _ _ _ _ _ _ h.rdr hr hB hby (by omega)).mono ?_
  rintro e w1 ⟨A', n', c', rfl, hr1, hc1, hf1⟩
  have h2 := h.reader (hc1.more fun k hk => .inl hk) hr1 (fun k hk => by
    rcases hk with hk | hk
    · exact .inl (.inl hk)
    · exact .inr (hf1 k hk)) (by rw [List.length_append, List.length_drop]; omega)
  go_wp2_with fail
  go_end0
  exact ⟨A', n', c', rfl, h2⟩
end
end Go.Proofs.Ytjeedkjgjfbndaa
