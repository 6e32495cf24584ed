/-
  The walks of a zlib decoder's NewDecoder, Feed ahead of the stream, End.
-/
import Derived.Test.YtjeedkjgjfbndaaZlM
namespace Go.Proofs.Ytjeedkjgjfbndaa
open Go.RowKit
set_option linter.unusedVariables false
/-- a zlib decoder: x is fed, a has come out; it holds E -/
def ZSt (w : World) (b0 g : Nat) (E : Nat → Prop) (x a : List Int) (m : Nat) (en hd : Bool) : Prop :=
  ∃ c Z, ZlC w b0 g c Z ∧ ZPh w (g + 1) c x a Z ∧ Z.m = m ∧ Z.en = en ∧ Z.sum = adlF 1 a ∧ E = zX g c Z.A ∧ (Z.err = 0 ∨ (Z.err = zE x m en ∧ a = zAll x m ∧ (Z.err = 5 → en = true))) ∧ (hd = true → Z.p = none ∧ Z.err = 0)
section
variable {w w' : World} {b0 g : Nat} {E : Nat → Prop} {x a : List Int} {m : Nat} {en hd : Bool}
theorem ZSt.keeps (h : ZSt w b0 g E x a m en hd) (hb : Below w.heap.size w w') : ZSt w' b0 g E x a m en hd := by
  obtain ⟨c, Z, h1, h2, h3⟩ := h
  exact ⟨c, Z, h1.keeps hb, h2.keeps hb, h3⟩
theorem ZSt.low (h : ZSt w b0 g E x a m en hd) : b0 ≤ w.heap.size := by obtain ⟨c, Z, h1, -⟩ := h; exact h1.low
theorem ZSt.xlt (h : ZSt w b0 g E x a m en hd) : ∀ k, E k → b0 ≤ k ∧ k < w.heap.size := by
  obtain ⟨c, Z, h1, _, _, _, _, rfl, _⟩ := h
  exact fun k hk => ⟨h1.xlo k hk, h1.xlt k hk⟩
end
set_option maxHeartbeats 2000000 in
theorem znew_any (w : World) (most : Int) (m : Nat) (hm : (m : Int) = max most 0) :
    Calls Try.prog 4 #[.int .i64 most] w fun e w' => ∃ g E, e = .returned (.pointer (some ⟨g, 0, none⟩)) ∧ ZSt w' w.heap.size g E [] [] m false true ∧ Below w.heap.size w w' := by
  have hfin : Hid (∀ v : Int, v = (m : Int) → ∃ g E, Ending.returned (.pointer (some ⟨w.heap.size, 0, none⟩)) = .returned (.pointer (some ⟨g, 0, none⟩)) ∧
      ZSt (w.alloc (.cells #[.int .i64 v, .slice none 0 0, .pointer none, .bool false, .bool false, .int .u32 1, .bool false, .int .i64 0] 34)) w.heap.size g E [] [] m false true ∧
      Below w.heap.size w (w.alloc (.cells #[.int .i64 v, .slice none 0 0, .pointer none, .bool false, .bool false, .int .u32 1, .bool false, .int .i64 0] 34))) := by
    rintro v rfl
    refine ⟨_, _, rfl, ⟨fun _ => 0, ⟨m, none, 0, 0, [], none, false, false, 1, false, 0⟩, ⟨Ar.new w _ _ rfl (all8 rfl rfl rfl rfl rfl rfl rfl rfl), Nat.le_refl _, OwnO.nil_, fun v hv => by simp at hv, rfl, fun k hk => by simp [blkOf] at hk, fun k hk => absurd rfl hk, by show (0 : Int) ≤ 1 ∧ (1 : Int) < _; omega⟩,
      .inl ⟨rfl, rfl, rfl, rfl, rfl, fun _ => rfl⟩, rfl, rfl, by show (1 : Int) = adlF 1 []; decide, rfl, .inl rfl, fun _ => ⟨rfl, rfl⟩⟩, (Below.refl _ w).alloc (Nat.le_refl _) _⟩
  have hcs : (most < 0 ∧ m = 0) ∨ (0 < most ∧ (m : Int) = most) ∨ (most = 0 ∧ m = 0) := by omega
  clear hm
  rcases hcs with ⟨h1, h2⟩ | ⟨h1, h2⟩ | ⟨h1, h2⟩
  all_goals
    have H2 := Lib.hid h2
    clear h2
    try subst h1
    go_enter Try.func4, Try.ntmps4
    go_wp2_with fail
    go_ret
    exact hfin.out _ (by have := H2.out; omega)
set_option maxHeartbeats 2000000 in
theorem zend_any (w : World) (b0 g : Nat) (E : Nat → Prop) (x a : List Int) (m : Nat) (hd : Bool) (h : ZSt w b0 g E x a m false hd) (herr : hd = true) :
    Calls Try.prog 8 #[.pointer (some ⟨g, 0, none⟩)] w fun e w' => e = .returned (.tuple #[]) ∧ ZSt w' b0 g E x a m true hd ∧ Ext b0 w w' E E := by
  obtain ⟨c, Z, h1, h2, h3, h4, h5, rfl, h6, h7⟩ := h
  obtain ⟨hp, he⟩ := h7 herr
  obtain ⟨-, -, -, -, -, -, k6, -⟩ := h1.cells
  have z6 := h1.frz (i := 6) (by omega)
  have hc : Chg w (w.setCell ⟨g, 6, none⟩ (.bool true)) (fun k => k = g) := Chg.setCell (S := fun k => k = g) (Chg.refl w _) (p := ⟨g, 6, none⟩) (.inl rfl) _
  have hfin : Hid (ZSt (w.setCell ⟨g, 6, none⟩ (.bool true)) b0 g (zX g c Z.A) x a m true hd ∧ Ext b0 w (w.setCell ⟨g, 6, none⟩ (.bool true)) (zX g c Z.A) (zX g c Z.A)) := by
    refine ⟨⟨c, { Z with en := true }, h1.turn hc ((h1.cell.set_ (i := 6) (by omega) _).congr (all8 rfl rfl rfl rfl rfl rfl rfl rfl)) ⟨rfl, rfl, rfl, rfl⟩ h1.sm, h2.aside hc (fun k hk => by rw [hk]; exact h1.cg) ⟨rfl, rfl, rfl, rfl, rfl, rfl, rfl, rfl, rfl⟩, h3, rfl, h5, rfl, .inl he, fun _ => ⟨hp, he⟩⟩, Ext.of (hc.more fun k hk => .inl hk) h1.xlo h1.low fun k hk => .inl hk⟩
  clear h2 h5 h6 hc
  go_enter Try.func8, Try.ntmps8
  go_wp2_with fail
  go_end0
  exact ⟨rfl, hfin.out⟩
set_option maxRecDepth 100000 in
set_option maxHeartbeats 4000000 in
/-- ahead of the stream -/
theorem zfeed_head (w : World) (b0 g : Nat) (E : Nat → Prop) (x : List Int) (m : Nat) (h : ZSt w b0 g E x [] m false true) (Bd k cp : Nat) (C : Option Addr) (b : List Int) (hr : RdI .u8 w Bd C k b) (hby : ∀ v ∈ b, 0 ≤ v ∧ v < 256) (hlen : x.length + b.length ≤ 100000000000) :
    Calls Try.prog 6 #[.pointer (some ⟨g, 0, none⟩), .slice C k cp] w fun e w' => ∃ E', e = .returned (.tuple #[]) ∧ ZSt w' b0 g E' (x ++ b) [] m false true ∧ Ext b0 w w' E E' := by
  obtain ⟨i0, hi, hz0, hz1, hz2⟩ := info_parts rbyte_info
  have Hi := Lib.hid hi
  have Hz0 := Lib.hid hz0
  have Hz1 := Lib.hid hz1
  have Hz2 := Lib.hid hz2
  obtain ⟨c, Z, h1, h2, h3, h4, h5, rfl, h6, h7⟩ := h
  obtain ⟨hp, he⟩ := h7 rfl
  rcases h2 with ⟨-, q2, q3, q4, -, q5⟩ | ⟨bI, gd, M, S, q1, _⟩
  case inr => rw [hp] at q1; cases q1
  obtain ⟨-, k1, k2, k3, -, -, k6, -⟩ := h1.cells
  rw [hp] at k2
  rw [h4] at k6
  have ho := h1.own
  have hnl := ho.rd.1
  rw [q4] at hnl ho
  have hkl := hr.1
  have hlow := h1.low
  have hfin : Hid (∀ A2 c2 w2, OwnO .u8 w2 b0 5 A2 (Z.n + k) c2 (x ++ b) → w.grownBy w2 (blkOf Z.A) → (blkOf A2 = blkOf Z.A ∨ blkOf A2 = some w.heap.size) →
      ∃ E', ZSt (w2.setCell ⟨g, 1, none⟩ (.slice A2 (Z.n + k) c2)) b0 g E' (x ++ b) [] m false true ∧ Ext b0 w (w2.setCell ⟨g, 1, none⟩ (.slice A2 (Z.n + k) c2)) (zX g c Z.A) E') := by
    intro A2 c2 w2 ho2 hg2 hat2
    have hA2 : ∀ q, blkOf A2 = some q → blkOf Z.A = some q ∨ w.heap.size ≤ q := fun q hq => by
      rcases hat2 with e | e
      · exact .inl (e ▸ hq)
      · rw [e] at hq; injection hq with hq; exact .inr (by omega)
    have hne : ∀ q, blkOf A2 = some q → q ≠ g := fun q hq => by
      rcases hA2 q hq with e | e
      · exact (h1.cA q e).1
      · have := h1.cell.lt; omega
    have hc2 : Chg w w2 (fun q => blkOf Z.A = some q) := (Chg.refl w _).grown hg2 fun q hq => .inl hq
    have hcall : Chg w (w2.setCell ⟨g, 1, none⟩ (.slice A2 (Z.n + k) c2)) (zX g c Z.A) := (hc2.more fun q hq => .inr (.inl hq)).setCell (p := ⟨g, 1, none⟩) (.inl (.inl rfl)) _
    refine ⟨zX g c A2, ⟨c, { Z with A := A2, n := Z.n + k, cp := c2, l := x ++ b }, ⟨?_, h1.lo, ho2.far (p := ⟨g, 1, none⟩) (fun e => hne g e rfl) _, ?_, h1.cg, fun q hq => ⟨hne q hq, q5 q⟩, fun q hq => absurd (q5 q) hq, h1.sm⟩, .inl ⟨hp, q2, q3, rfl, rfl, q5⟩, h3, h4, h5, rfl, .inl he, fun _ => ⟨hp, he⟩⟩, Ext.of hcall h1.xlo hlow fun q hq => ?_⟩
    · exact ((hc2.ar h1.cell (fun e => (h1.cA g e).1 rfl)).set_ (i := 1) (by omega) _).congr (all8 rfl rfl rfl rfl rfl rfl rfl rfl)
    · intro v hv
      rcases List.mem_append.1 hv with hv | hv
      · exact h1.by_ v (by rw [q4]; exact hv)
      · exact hby v hv
    · rcases hq with hq | hq | hq
      · exact .inl (.inl hq)
      · rcases hA2 q hq with e | e
        · exact .inl (.inr (.inl e))
        · exact .inr e
      · exact absurd (q5 q) hq
  have hcell := h1.cell
  have hcA : ∀ q, blkOf Z.A = some q → q ≠ g := fun q hq => (h1.cA q hq).1
  obtain ⟨A, hA⟩ : ∃ A, Z.A = A := ⟨_, rfl⟩
  obtain ⟨n, hn⟩ : ∃ n, Z.n = n := ⟨_, rfl⟩
  obtain ⟨d, hd⟩ : ∃ d, Z.cp = d := ⟨_, rfl⟩
  rw [hA, hn, hd] at ho
  rw [hA, hn, hd] at k1
  rw [hA, hn] at hfin
  rw [hA] at hcA
  rw [hn] at hnl
  have hnk : n + k ≤ 100000000000 := by omega
  have HA := Lib.hid hA
  clear h1 h3 h5 h6 h7 hi hz0 hz1 hz2 q4 hnl hkl hlen hA hn hd
  go_enter Try.func6, Try.ntmps6
  go_wp2_with (at_builtin; (refine wpList_appO .u8 b0 5 i0 1 rfl (.tmp 34) (.tmp 35) _ rfl Try.underlying26 Hi.out Hz0.out Hz1.out Hz2.out rfl ho rfl hr (by omega) (by omega) hlow ?_)
               intro A2 c2 w2 ho2 hg2 hat2
               have har2 := ((Chg.refl w (fun q => blkOf A = some q)).grown hg2 fun q hq => .inl hq).ar hcell (fun e => hcA g e rfl)
               have z1 := har2.frozen' (i := 1) (by omega)
               have kk1 := har2.cell (i := 1) (by omega))
  obtain ⟨E', r1, r2⟩ := hfin.out A2 c2 w2 ho2 hg2 hat2
  go_end0
  exact ⟨E', rfl, r1, by rw [HA.out]; exact r2⟩
end Go.Proofs.Ytjeedkjgjfbndaa
