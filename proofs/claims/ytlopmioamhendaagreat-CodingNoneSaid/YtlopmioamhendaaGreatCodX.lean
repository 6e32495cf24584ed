/-
  The walks of coding's wrappers: Decoder, Encoder, and Pipe's small methods.
-/
import Derived.Test.YtlopmioamhendaaGreatCodW
import Derived.Deep.RegionLaw
namespace Go.Proofs.YtlopmioamhendaaGreat
open Go.RowKit
set_option linter.unusedVariables false

theorem decFeed_any (w : World) (b0 gd g n c B m d : Nat) (A C : Option Addr) (l b : List Int) (most : Int) (hd : Ar w gd 1 (fun _ => .iface 58 (.pointer (some ⟨g, 0, none⟩)))) (h : SamM w b0 g A n c l most false) (hr : RdI .u8 w B C m b) (hB : b0 ≤ w.heap.size) (hn : n + m ≤ 1000000000) :
    Calls Tryz.prog 5 #[.pointer (some ⟨gd, 0, none⟩), .slice C m d] w (FeedS w b0 g A (l ++ b) most) := by
  have c0 := hd.cell (i := 0) (by omega)
  go_enter Tryz.func5, Tryz.ntmps5
  go_wp2_with fail
  refine (samFeed_any w b0 g n c B m d A C l b most h hr hB hn).mono ?_
  rintro e w2 ⟨A', n', c', rfl, h1, h2, h3⟩
  go_wp2_with fail
  first
    | go_end0
    | go_returns
  exact ⟨A', n', c', rfl, h1, h2, h3⟩
theorem decEnd_any (w : World) (b0 gd g n c : Nat) (A : Option Addr) (l : List Int) (most : Int) (ended : Bool) (hd : Ar w gd 1 (fun _ => .iface 58 (.pointer (some ⟨g, 0, none⟩)))) (h : SamM w b0 g A n c l most ended) :
    Calls Tryz.prog 6 #[.pointer (some ⟨gd, 0, none⟩)] w fun e w' => e = .returned (.tuple #[]) ∧ SamM w' b0 g A n c l most true ∧ Chg w w' (fun k => k = g) := by
  have c0 := hd.cell (i := 0) (by omega)
  go_enter Tryz.func6, Tryz.ntmps6
  go_wp2_with fail
  refine (samEnd_any w b0 g n c A l most ended h).mono ?_
  rintro e w2 ⟨rfl, h1, h2⟩
  go_wp2_with fail
  first
    | go_end0
    | go_returns
  exact ⟨rfl, h1, h2⟩
theorem decTake_any (w : World) (b0 gd g n c M N K : Nat) (A : Option Addr) (l : List Int) (ended : Bool) (hd : Ar w gd 1 (fun _ => .iface 58 (.pointer (some ⟨g, 0, none⟩)))) (h : SamM w b0 g A n c l (M : Int) ended) (hB : b0 ≤ w.heap.size) (hn : n ≤ 1000000000) (hM : n ≤ M) (hM2 : (M : Int) ≤ 4611686018427387904) (hN : (N : Int) ≤ 1000000000) (hK : K = min N n) :
    Calls Tryz.prog 9 #[.pointer (some ⟨gd, 0, none⟩), .int .i64 N] w (TakeS w b0 g l M N K ended) := by
  have c0 := hd.cell (i := 0) (by omega)
  have HT := Lib.hid (samTake_any w b0 g n c M N K A l ended h hB hn hM hM2 hN hK)
  clear hK hN hM2 hM hn
  go_enter Tryz.func9, Tryz.ntmps9
  go_wp2_with fail
  refine HT.out.mono ?_
  rintro e w2 ⟨Ao, no, co, A', n', c', rfl, h1, h2, h3, h4, h5, h6, h7⟩
  obtain ⟨E, hE⟩ : ∃ E, sTakeE N K ended = E := ⟨_, rfl⟩
  rw [hE]
  go_wp2_with fail
  go_returns
  exact ⟨Ao, no, co, A', n', c', by rw [hE]; rfl, h1, h2, h3, h4, h5, h6, h7⟩
theorem encWrite_any (w : World) (b0 ge g n c B m d : Nat) (A C : Option Addr) (l b : List Int) (hd : Ar w ge 1 (fun _ => .iface 69 (.pointer (some ⟨g, 0, none⟩)))) (h : PlnM w b0 g A n c l false) (hr : RdI .u8 w B C m b) (hB : b0 ≤ w.heap.size) (hn : n + m ≤ 1000000000) :
    Calls Tryz.prog 12 #[.pointer (some ⟨ge, 0, none⟩), .slice C m d] w (WriteP w b0 g A (l ++ b)) := by
  have c0 := hd.cell (i := 0) (by omega)
  go_enter Tryz.func12, Tryz.ntmps12
  go_wp2_with fail
  refine (plnWrite_any w b0 g n c B m d A C l b h hr hB hn).mono ?_
  rintro e w2 ⟨A', n', c', rfl, h1, h2, h3⟩
  go_wp2_with fail
  go_ret
  exact ⟨A', n', c', rfl, h1, h2, h3⟩
theorem encClose_any (w : World) (b0 ge g n c : Nat) (A : Option Addr) (l : List Int) (hd : Ar w ge 1 (fun _ => .iface 69 (.pointer (some ⟨g, 0, none⟩)))) (h : PlnM w b0 g A n c l false) :
    Calls Tryz.prog 13 #[.pointer (some ⟨ge, 0, none⟩)] w fun e w' => e = .returned (.int .i64 0) ∧ PlnM w' b0 g A n c l true ∧ Chg w w' (fun k => k = g) := by
  have c0 := hd.cell (i := 0) (by omega)
  go_enter Tryz.func13, Tryz.ntmps13
  go_wp2_with fail
  refine (plnClose_any w b0 g n c A l h).mono ?_
  rintro e w2 ⟨rfl, h1, h2⟩
  go_wp2_with fail
  go_ret
  exact ⟨rfl, h1, h2⟩
theorem encTake_any (w : World) (b0 ge g n c : Nat) (A : Option Addr) (l : List Int) (done : Bool) (hd : Ar w ge 1 (fun _ => .iface 69 (.pointer (some ⟨g, 0, none⟩)))) (h : PlnM w b0 g A n c l done) :
    Calls Tryz.prog 14 #[.pointer (some ⟨ge, 0, none⟩)] w fun e w' => e = .returned (.slice A n c) ∧ OwnI .u8 w' b0 5 A n c l ∧ PlnM w' b0 g none 0 0 [] done ∧ Chg w w' (fun k => k = g) := by
  have c0 := hd.cell (i := 0) (by omega)
  go_enter Tryz.func14, Tryz.ntmps14
  go_wp2_with fail
  refine (plnTake_any w b0 g n c A l done h).mono ?_
  rintro e w2 ⟨rfl, h1, h2, h3⟩
  go_wp2_with fail
  go_ret
  exact ⟨rfl, h1, h2, h3⟩
section
variable {w : World} {b0 gp gd ge gs gl n c ns cs np cp : Nat} {A As Ap : Option Addr} {l ls lp : List Int} {err M : Int} {ended done : Bool}
theorem pipFeed_any (B m d : Nat) (C : Option Addr) (b : List Int) (h : PipM w b0 gp gd ge gs gl A n c l err As ns cs ls M false Ap np cp lp done) (hr : RdI .u8 w B C m b) (hB : b0 ≤ w.heap.size) (hn : ns + m ≤ 1000000000) :
    Calls Tryz.prog 7 #[.pointer (some ⟨gp, 0, none⟩), .slice C m d] w fun e w' => e = .returned (.tuple #[]) ∧ ∃ As' ns' cs', PipM w' b0 gp gd ge gs gl A n c l err As' ns' cs' (ls ++ b) M false Ap np cp lp done ∧ Chg w w' (foot As gs) := by
  have c0 := h.pc.cell (i := 0) (by omega)
  unfold ppF at c0
  go_enter Tryz.func7, Tryz.ntmps7
  go_wp2_with fail
  refine (decFeed_any w b0 gd gs ns cs B m d As C ls b M h.dc h.s hr hB hn).mono ?_
  rintro e w2 ⟨A', n', c', rfl, h1, h2, h3⟩
  go_wp2_with fail
  first
    | go_end0
    | go_returns
  refine ⟨rfl, A', n', c', h.setS h2 h1 (fun k hk => ?_), h2⟩
  rcases hk with hk | hk
  · exact .inl (.inl hk)
  · rcases h3 with h3 | h3
    · exact .inl (.inr (h3 ▸ hk))
    · rw [h3] at hk; injection hk with hk; exact .inr (by omega)
theorem pipEnd_any (h : PipM w b0 gp gd ge gs gl A n c l err As ns cs ls M ended Ap np cp lp done) :
    Calls Tryz.prog 8 #[.pointer (some ⟨gp, 0, none⟩)] w fun e w' => e = .returned (.tuple #[]) ∧ PipM w' b0 gp gd ge gs gl A n c l err As ns cs ls M true Ap np cp lp done ∧ Chg w w' (foot As gs) := by
  have c0 := h.pc.cell (i := 0) (by omega)
  unfold ppF at c0
  go_enter Tryz.func8, Tryz.ntmps8
  go_wp2_with fail
  refine (decEnd_any w b0 gd gs ns cs As ls M ended h.dc h.s).mono ?_
  rintro e w2 ⟨rfl, h1, h2⟩
  have h3 : Chg w w2 (foot As gs) := h2.more fun k hk => .inl hk
  go_wp2_with fail
  first
    | go_end0
    | go_returns
  exact ⟨rfl, h.setS h3 h1 (fun k hk => .inl hk), h3⟩
end
theorem Ar.new2 {w : World} {g m : Nat} {f : Nat → Value} (hg : g = w.heap.size) (cs : Array Value) (t : TypeId) (hm : cs.size = m) (hf : ∀ i, i < m → cs[i]? = some (f i)) : Ar (w.alloc (.cells cs t)) g m f := by
  subst hg; exact Ar.new w cs t hm hf
theorem newPipe_any (w : World) (f : Int) : Calls Tryz.prog 11 #[.int .i64 f, .int .i64 f, .int .i64 6, .int .i64 0] w fun e w' =>
    ∃ gp gd ge gs gl, e = .returned (.pointer (some ⟨gp, 0, none⟩)) ∧ PipM w' w.heap.size gp gd ge gs gl none 0 0 [] 0 none 0 0 [] 4611686018427387904 false none 0 0 [] false ∧ Below w.heap.size w w' := by
  go_enter Tryz.func11, Tryz.ntmps11
  go_wp2
  go_ret
  obtain ⟨s, hs⟩ : ∃ s, w.heap.size = s := ⟨_, rfl⟩
  have h0 : Ar (w.alloc (Obj.cells #[Value.slice none 0 0, Value.int IntKind.i64 4611686018427387904, Value.bool false] 60)) w.heap.size 3 (smF none 0 0 4611686018427387904 false) :=
    Ar.new w _ _ rfl fun i hi => by
      obtain rfl | rfl | rfl : i = 0 ∨ i = 1 ∨ i = 2 := by omega
      all_goals rfl
  refine ⟨w.heap.size + 1 + 1 + 1 + 1, w.heap.size + 1, w.heap.size + 1 + 1 + 1, w.heap.size, w.heap.size + 1 + 1, rfl, ⟨?_, ?_, ?_, ⟨((((h0.alloc _).alloc _).alloc _).alloc _), Nat.le_refl _, OwnI.nil_, by simp [blkOf]⟩, ⟨?_, by omega, OwnI.nil_, by simp [blkOf]⟩, OwnI.nil_, by simp [blkOf], by omega, ?_, ?_, ?_, ?_, ?_, ?_⟩, ?_⟩
  · refine Ar.new2 (m := 4) (by simp) _ _ rfl fun i hi => ?_
    obtain rfl | rfl | rfl | rfl : i = 0 ∨ i = 1 ∨ i = 2 ∨ i = 3 := by omega
    all_goals rfl
  · refine (((Ar.new2 (m := 1) (by simp) _ _ rfl fun i hi => ?_).alloc _).alloc _).alloc _
    obtain rfl : i = 0 := by omega
    rfl
  · refine (Ar.new2 (m := 1) (by simp) _ _ rfl fun i hi => ?_).alloc _
    obtain rfl : i = 0 := by omega
    rfl
  · refine ((Ar.new2 (m := 2) (by simp) _ _ rfl fun i hi => ?_).alloc _).alloc _
    obtain rfl | rfl : i = 0 ∨ i = 1 := by omega
    all_goals rfl
  · rintro k (rfl | hk) (hk2 | hk2)
    · omega
    · simp [blkOf] at hk2
    · simp [blkOf] at hk
    · simp [blkOf] at hk
  · rintro k (rfl | hk) (hk2 | hk2)
    · omega
    · simp [blkOf] at hk2
    · simp [blkOf] at hk
    · simp [blkOf] at hk
  · rintro k (rfl | hk) (hk2 | hk2)
    · omega
    · simp [blkOf] at hk2
    · simp [blkOf] at hk
    · simp [blkOf] at hk
  · constructor <;> (rintro (hk | hk) <;> first | omega | (simp [blkOf] at hk))
  · constructor <;> (rintro (hk | hk) <;> first | omega | (simp [blkOf] at hk))
  · constructor <;> (rintro (hk | hk) <;> first | omega | (simp [blkOf] at hk))
  · exact ((((((Below.refl _ _).alloc (Nat.le_refl _) _).alloc (by simp) _).alloc (by simp; omega) _).alloc (by simp; omega) _).alloc (by simp; omega) _)
end Go.Proofs.YtlopmioamhendaaGreat
