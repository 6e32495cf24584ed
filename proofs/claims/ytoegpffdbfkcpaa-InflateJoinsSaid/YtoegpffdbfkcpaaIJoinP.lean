/-
  Plain law: a stored block, a fixed block with one text that was, a stored block that is the last.
-/
import Derived.Test.YtoegpffdbfkcpaaInfQ
import Derived.Test.YtoegpffdbfkcpaaInfO
import Derived.Test.YtoegpffdbfkcpaaInfR
namespace Go.Proofs.Ytoegpffdbfkcpaa
set_option linter.unusedVariables false
section
variable {s : IS} {y pad B : List Int}
theorem num_is {x z : List Int} {n : Nat} (h : x.length = n) : num (x ++ z) n = (numI x).toNat := by
  rw [num_app (by omega)]; unfold num; rw [List.take_of_length_le (by omega)]
theorem algn_pad {R : List Int} (hp : pad.length < 8) (hR : R.length % 8 = 0) : algn (pad ++ R) = R := by
  unfold algn
  rw [List.length_append, show (pad.length + R.length) % 8 = pad.length by omega, List.drop_left]
theorem drop_len {a R : List Int} {n : Nat} (h : a.length = n) : (a ++ R).drop n = R := by subst h; exact List.drop_left
theorem size_num (n : Nat) (h : n ≤ 65535) (z : List Int) : num (ofN n 16 ++ ofN (65535 - n) 16 ++ z) 32 = n + 65536 * (65535 - n) := by
  rw [num_is (by rw [List.length_append, ofN_length, ofN_length]), numI_append, ofN_length, numI_ofN, numI_ofN]
  have e : (2 : Int) ^ 16 = 65536 := by decide
  rw [e]
  omega
theorem even_bts (hy : y.length % 8 = 0) (hb : Bit y) : bts (byt y) = y := by
  have h := bts_byt hb
  have : rest y = [] := List.eq_nil_of_length_eq_zero (by rw [rest_length]; exact hy)
  rw [this, List.append_nil] at h
  exact h
/-- a stored block -/
theorem stored_block (hst : s.st = 0) {h : Int} (hh : h = 0 ∨ h = 1) (hx : s.x = [h, 0, 0] ++ (pad ++ (ofN B.length 16 ++ ofN (65535 - B.length) 16 ++ (bts B ++ y)))) (hp : pad.length < 8) (hy : y.length % 8 = 0) (hyb : Bit y) (hB : ∀ x ∈ B, 0 ≤ x ∧ x < 256) (hlen : B.length ≤ 65535) (hr : B.length ≤ s.rem) :
    IS.Steps s ({ s with last := decide (h = 1), kinds := s.kinds ++ [0], left := 0, all := s.all ++ B, rem := s.rem - B.length, x := y, st := 2 } : IS).over := by
  have hn3 : num s.x 3 = h.toNat := by
    rw [hx, num_is (x := [h, 0, 0]) (n := 3) rfl]
    rcases hh with rfl | rfl <;> rfl
  have hd3 : s.x.drop 3 = pad ++ (ofN B.length 16 ++ ofN (65535 - B.length) 16 ++ (bts B ++ y)) := by rw [hx]; rfl
  have hRl : (ofN B.length 16 ++ ofN (65535 - B.length) 16 ++ (bts B ++ y)).length = 32 + (8 * B.length + y.length) := by
    rw [List.length_append, List.length_append, List.length_append, ofN_length, ofN_length, bts_length]
  have e1 : s.step = ({ s with last := decide (h = 1), kinds := s.kinds ++ [0], x := ofN B.length 16 ++ ofN (65535 - B.length) 16 ++ (bts B ++ y), st := 1 }, 0) := by
    unfold IS.step
    rw [if_pos hst]
    unfold IS.block
    rw [if_neg (by rw [hx, List.length_append]; simp), hn3, if_pos (by rcases hh with rfl | rfl <;> rfl), hd3, algn_pad hp (by omega)]
    rcases hh with rfl | rfl <;> rfl
  have e2 : ({ s with last := decide (h = 1), kinds := s.kinds ++ [0], x := ofN B.length 16 ++ ofN (65535 - B.length) 16 ++ (bts B ++ y), st := 1 } : IS).step = ({ s with last := decide (h = 1), kinds := s.kinds ++ [0], x := bts B ++ y, left := B.length, st := 2 }, 0) := by
    unfold IS.step
    rw [if_neg (by simp), if_pos rfl]
    unfold IS.size
    simp only
    rw [if_neg (by rw [hRl]; omega), size_num _ hlen, if_pos (by omega), drop_len (by rw [List.length_append, ofN_length, ofN_length])]
    congr 2
    omega
  have hBy : ∀ x ∈ B ++ byt y, 0 ≤ x ∧ x < 256 := fun x hx => by
    rcases List.mem_append.1 hx with h1 | h1
    · exact hB x h1
    · exact byt_bd hyb x h1
  have hxy : bts (B ++ byt y) = bts B ++ y := by rw [bts_append, even_bts hy hyb]
  have h3 := stored_steps (s := { s with last := decide (h = 1), kinds := s.kinds ++ [0], x := bts B ++ y, left := B.length, st := 2 }) (B := B ++ byt y) (j := 0) hBy rfl (by show bts B ++ y = (bts (B ++ byt y)).drop 0; rw [hxy]; rfl) B.length (Nat.le_refl _) (by rw [List.length_append]; omega) hr
  have hrb : rb (B ++ byt y) (8 * (0 + B.length)) = y := by
    unfold rb
    rw [hxy, Nat.zero_add]
    exact drop_len (by rw [bts_length])
  rw [hrb, List.drop_zero, List.take_left] at h3
  have e4 : ({ s with last := decide (h = 1), kinds := s.kinds ++ [0], left := 0, all := s.all ++ B, rem := s.rem - B.length, x := y, st := 2 } : IS).step = (({ s with last := decide (h = 1), kinds := s.kinds ++ [0], left := 0, all := s.all ++ B, rem := s.rem - B.length, x := y, st := 2 } : IS).over, 0) := by
    unfold IS.step
    rw [if_neg (by simp), if_neg (by simp), if_pos rfl]
    unfold IS.stored
    rw [if_pos rfl]
  have s1 := IS.Steps.one (s := s) (by rw [e1])
  rw [e1] at s1
  have s2 := s1.tail (by rw [e2])
  rw [e2] at s2
  have h3' : IS.Steps { s with last := decide (h = 1), kinds := s.kinds ++ [0], x := bts B ++ y, left := B.length, st := 2 } { s with last := decide (h = 1), kinds := s.kinds ++ [0], left := 0, all := s.all ++ B, rem := s.rem - B.length, x := y, st := 2 } := by
    have := h3
    simp only [Nat.sub_self] at this
    exact this
  have s4 := (s2.trans h3').tail (by rw [e4])
  rw [e4] at s4
  exact s4
/-- a code's bits, the highest first -/
def hiB (v : Int) (n : Nat) : List Int := (ofN v n).reverse
theorem hiB_length (v : Int) (n : Nat) : (hiB v n).length = n := by unfold hiB; rw [List.length_reverse, ofN_length]
def lenC (j : Nat) : List Int := if 23 ≤ j then hiB (169 + (j : Int)) 8 else hiB (1 + (j : Int)) 7
def lenN (j : Nat) : Nat := if 23 ≤ j then 8 else 7
theorem lenC_length (j : Nat) : (lenC j).length = lenN j := by unfold lenC lenN; split <;> rw [hiB_length]
theorem len_next : ∀ j, j < 29 → nextOf fixL (lenC j) = (257 + (j : Int), lenN j, 0) := by decide +kernel
theorem dist_next : ∀ j : Nat, j < 30 → nextOf fixD (hiB (j : Int) 5) = ((j : Int), 5, 0) := by decide +kernel
theorem end_next : nextOf fixL [0, 0, 0, 0, 0, 0, 0] = (256, 7, 0) := by decide +kernel
theorem next_at {l x : List Int} {r : Int} {n : Nat} (h : nextOf l x = (r, n, 0)) (z : List Int) : nextOf l (x ++ z) = (r, n, 0) := by
  rw [nextOf_app l x z (by rw [h]; simp), h]
/-- a fixed block with one text that was -/
theorem text_block (hst : s.st = 0) {i j v u : Nat} (hj : j < 29) (hi : i < 30) (hv : v < 2 ^ lE j) (hu : u < 2 ^ dE i) (hx : s.x = [0, 1, 0] ++ (lenC j ++ (ofN v (lE j) ++ (hiB (i : Int) 5 ++ (ofN u (dE i) ++ ([0, 0, 0, 0, 0, 0, 0] ++ y))))))
    (hD : dB i + u ≤ s.all.length) (hN : lB j + v ≤ s.rem) :
    ∃ t : IS, IS.Steps s t ∧ t.st = 0 ∧ t.x = y ∧ t.all = s.all ++ again s.all (dB i + u) (lB j + v) ∧ t.rem = s.rem - (lB j + v) := by
  have hn3 : num s.x 3 = 2 := by rw [hx, num_is (x := [0, 1, 0]) (n := 3) rfl]; rfl
  have hd3 : s.x.drop 3 = lenC j ++ (ofN v (lE j) ++ (hiB (i : Int) 5 ++ (ofN u (dE i) ++ ([0, 0, 0, 0, 0, 0, 0] ++ y)))) := by rw [hx]; rfl
  have e1 : s.step = ({ s with last := false, kinds := s.kinds ++ [1], x := lenC j ++ (ofN v (lE j) ++ (hiB (i : Int) 5 ++ (ofN u (dE i) ++ ([0, 0, 0, 0, 0, 0, 0] ++ y)))), lt := fixL, ds := fixD, st := 6 }, 0) := by
    unfold IS.step
    rw [if_pos hst]
    unfold IS.block
    rw [if_neg (by rw [hx, List.length_append]; simp), hn3, if_neg (by decide), if_pos (by decide), hd3]
    rfl
  obtain ⟨s1, hs1⟩ : ∃ s1 : IS, s1 = { s with last := false, kinds := s.kinds ++ [1], x := lenC j ++ (ofN v (lE j) ++ (hiB (i : Int) 5 ++ (ofN u (dE i) ++ ([0, 0, 0, 0, 0, 0, 0] ++ y)))), lt := fixL, ds := fixD, st := 6 } := ⟨_, rfl⟩
  rw [← hs1] at e1
  have a1 : s1.all = s.all ∧ s1.rem = s.rem ∧ s1.st = 6 ∧ s1.lt = fixL ∧ s1.ds = fixD ∧ s1.last = false ∧ s1.x = lenC j ++ (ofN v (lE j) ++ (hiB (i : Int) 5 ++ (ofN u (dE i) ++ ([0, 0, 0, 0, 0, 0, 0] ++ y)))) := by rw [hs1]; exact ⟨rfl, rfl, rfl, rfl, rfl, rfl, rfl⟩
  clear hs1
  obtain ⟨b1, b2, b3, b4, b5, b6, b7⟩ := a1
  have nx : nextOf s1.lt s1.x = (257 + (j : Int), lenN j, 0) := by rw [b4, b7]; exact next_at (len_next j hj) _
  have dx : s1.x.drop (lenN j) = ofN v (lE j) ++ (hiB (i : Int) 5 ++ (ofN u (dE i) ++ ([0, 0, 0, 0, 0, 0, 0] ++ y))) := by rw [b7]; exact drop_len (lenC_length j)
  have nv : num (ofN v (lE j) ++ (hiB (i : Int) 5 ++ (ofN u (dE i) ++ ([0, 0, 0, 0, 0, 0, 0] ++ y)))) (lE j) = v := by
    rw [num_is (ofN_length _ _), numI_ofN, Int.emod_eq_of_lt (by omega) (by exact_mod_cast hv)]
    rfl
  have ej : (257 + (j : Int) - 257).toNat = j := by omega
  have e2 : s1.step = ({ s1 with x := hiB (i : Int) 5 ++ (ofN u (dE i) ++ ([0, 0, 0, 0, 0, 0, 0] ++ y)), len := lB j + v, st := 7 }, 0) := by
    unfold IS.step
    rw [if_neg (by omega), if_neg (by omega), if_neg (by omega), if_neg (by omega), if_neg (by omega), if_neg (by omega), if_pos b3]
    unfold IS.token
    rw [nx]
    simp only
    rw [if_neg (by decide), if_neg (by omega), if_neg (by omega), if_neg (by omega), dx, ej, if_neg (by rw [List.length_append, ofN_length]; omega), nv, drop_len (ofN_length _ _)]
  obtain ⟨s2, hs2⟩ : ∃ s2 : IS, s2 = { s1 with x := hiB (i : Int) 5 ++ (ofN u (dE i) ++ ([0, 0, 0, 0, 0, 0, 0] ++ y)), len := lB j + v, st := 7 } := ⟨_, rfl⟩
  rw [← hs2] at e2
  have a2 : s2.all = s.all ∧ s2.rem = s.rem ∧ s2.st = 7 ∧ s2.lt = fixL ∧ s2.ds = fixD ∧ s2.last = false ∧ s2.x = hiB (i : Int) 5 ++ (ofN u (dE i) ++ ([0, 0, 0, 0, 0, 0, 0] ++ y)) ∧ s2.len = lB j + v := by rw [hs2]; exact ⟨b1, b2, rfl, b4, b5, b6, rfl, rfl⟩
  clear hs2 b1 b2 b3 b4 b5 b6 b7 nx dx nv
  obtain ⟨b1, b2, b3, b4, b5, b6, b7, b8⟩ := a2
  have nx : nextOf s2.ds s2.x = ((i : Int), 5, 0) := by rw [b5, b7]; exact next_at (dist_next i hi) _
  have dx : s2.x.drop 5 = ofN u (dE i) ++ ([0, 0, 0, 0, 0, 0, 0] ++ y) := by rw [b7]; exact drop_len (hiB_length _ _)
  have nv : num (ofN u (dE i) ++ ([0, 0, 0, 0, 0, 0, 0] ++ y)) (dE i) = u := by
    rw [num_is (ofN_length _ _), numI_ofN, Int.emod_eq_of_lt (by omega) (by exact_mod_cast hu)]
    rfl
  have ei : ((i : Int)).toNat = i := by omega
  have e3 : s2.step = ({ s2 with x := [0, 0, 0, 0, 0, 0, 0] ++ y, st := 6, toks := s2.toks ++ [Tok.mk 0 s2.len ((dB i + u : Nat))], all := s.all ++ again s.all (dB i + u) (lB j + v), rem := s.rem - (lB j + v) }, 0) := by
    unfold IS.step
    rw [if_neg (by omega), if_neg (by omega), if_neg (by omega), if_neg (by omega), if_neg (by omega), if_neg (by omega), if_neg (by omega), if_pos b3]
    unfold IS.dist
    rw [nx]
    simp only
    rw [if_neg (by decide), if_neg (by omega), dx, ei, if_neg (by rw [List.length_append, ofN_length]; omega), nv, drop_len (ofN_length _ _)]
    unfold IS.text
    rw [if_neg (by rw [b1]; omega)]
    unfold IS.emit
    simp only
    rw [b1, b2, b8, again_length, if_neg (by omega), List.take_of_length_le (by rw [again_length]; exact hN)]
  obtain ⟨s3, hs3⟩ : ∃ s3 : IS, s3 = { s2 with x := [0, 0, 0, 0, 0, 0, 0] ++ y, st := 6, toks := s2.toks ++ [Tok.mk 0 s2.len ((dB i + u : Nat))], all := s.all ++ again s.all (dB i + u) (lB j + v), rem := s.rem - (lB j + v) } := ⟨_, rfl⟩
  rw [← hs3] at e3
  have a3 : s3.all = s.all ++ again s.all (dB i + u) (lB j + v) ∧ s3.rem = s.rem - (lB j + v) ∧ s3.st = 6 ∧ s3.lt = fixL ∧ s3.last = false ∧ s3.x = [0, 0, 0, 0, 0, 0, 0] ++ y := by rw [hs3]; exact ⟨rfl, rfl, rfl, b4, b6, rfl⟩
  clear hs3 b1 b2 b3 b4 b5 b6 b7 b8 nx dx nv
  obtain ⟨b1, b2, b3, b4, b6, b7⟩ := a3
  have nx : nextOf s3.lt s3.x = (256, 7, 0) := by rw [b4, b7]; exact next_at end_next _
  have e4 : s3.step = (({ s3 with x := y } : IS).over, 0) := by
    unfold IS.step
    rw [if_neg (by omega), if_neg (by omega), if_neg (by omega), if_neg (by omega), if_neg (by omega), if_neg (by omega), if_pos b3]
    unfold IS.token
    rw [nx]
    simp only
    rw [if_neg (by decide), if_neg (by decide), if_pos trivial, b7]
    rfl
  have t1 := IS.Steps.one (s := s) (by rw [e1])
  rw [e1] at t1
  have t2 := t1.tail (by rw [e2])
  rw [e2] at t2
  have t3 := t2.tail (by rw [e3])
  rw [e3] at t3
  have t4 := t3.tail (by rw [e4])
  rw [e4] at t4
  refine ⟨_, t4, ?_⟩
  unfold IS.over
  simp only [b6, Bool.false_eq_true, if_false]
  exact ⟨trivial, trivial, b1, b2⟩
/-- all three of them -/
theorem join_law {a b p1 p2 : List Int} {i j v u M : Nat} (hj : j < 29) (hi : i < 30) (hv : v < 2 ^ lE j) (hu : u < 2 ^ dE i) (ha : ∀ x ∈ a, 0 ≤ x ∧ x < 256) (hb : ∀ x ∈ b, 0 ≤ x ∧ x < 256) (hla : a.length ≤ 65535) (hlb : b.length ≤ 65535) (hM : a.length + (lB j + v) + b.length ≤ M) (hD : dB i + u ≤ a.length) (hp1 : p1.length < 8) (hp2 : p2.length < 8)
    (y2 : List Int) (hy2 : y2 = [1, 0, 0] ++ (p2 ++ (ofN b.length 16 ++ ofN (65535 - b.length) 16 ++ (bts b ++ []))))
    (y1 : List Int) (hy1 : y1 = [0, 1, 0] ++ (lenC j ++ (ofN v (lE j) ++ (hiB (i : Int) 5 ++ (ofN u (dE i) ++ ([0, 0, 0, 0, 0, 0, 0] ++ y2)))))) (hbit : Bit y1) (hev : y1.length % 8 = 0) :
    ∃ t, (start ([0, 0, 0] ++ (p1 ++ (ofN a.length 16 ++ ofN (65535 - a.length) 16 ++ (bts a ++ y1)))) M).fin = (t, 8) ∧ t.all = a ++ again a (dB i + u) (lB j + v) ++ b ∧ t.x = [] := by
  obtain ⟨s0, hs0⟩ : ∃ s0, s0 = start ([0, 0, 0] ++ (p1 ++ (ofN a.length 16 ++ ofN (65535 - a.length) 16 ++ (bts a ++ y1)))) M := ⟨_, rfl⟩
  have h1 := stored_block (s := s0) (B := a) (pad := p1) (y := y1) (h := 0) (by rw [hs0]; rfl) (.inl rfl) (by rw [hs0]; rfl) hp1 hev hbit ha hla (by rw [hs0]; show a.length ≤ M; omega)
  obtain ⟨s1, hs1⟩ : ∃ s1, s1 = ({ s0 with last := decide ((0 : Int) = 1), kinds := s0.kinds ++ [0], left := 0, all := s0.all ++ a, rem := s0.rem - a.length, x := y1, st := 2 } : IS).over := ⟨_, rfl⟩
  rw [← hs1] at h1
  have b1 : s1.st = 0 ∧ s1.x = y1 ∧ s1.all = a ∧ s1.rem = M - a.length := by
    rw [hs1, hs0]; exact ⟨rfl, rfl, rfl, rfl⟩
  clear hs1
  obtain ⟨b1, b2, b3, b4⟩ := b1
  obtain ⟨s2, h2, c1, c2, c3, c4⟩ := text_block (s := s1) (y := y2) b1 hj hi hv hu (by rw [b2, hy1]) (by rw [b3]; exact hD) (by rw [b4]; omega)
  rw [b3] at c3
  have h3 := stored_block (s := s2) (B := b) (pad := p2) (y := []) (h := 1) c1 (.inr rfl) (by rw [c2, hy2]) hp2 rfl Bit.nil_ hb hlb (by rw [c4, b4]; omega)
  obtain ⟨s3, hs3⟩ : ∃ s3, s3 = ({ s2 with last := decide ((1 : Int) = 1), kinds := s2.kinds ++ [0], left := 0, all := s2.all ++ b, rem := s2.rem - b.length, x := [], st := 2 } : IS).over := ⟨_, rfl⟩
  rw [← hs3] at h3
  have d1 : s3.st = 8 ∧ s3.x = [] ∧ s3.all = a ++ again a (dB i + u) (lB j + v) ++ b := by
    rw [hs3]; exact ⟨rfl, rfl, by rw [← c3]; rfl⟩
  have hs := (h1.trans h2).trans h3
  rw [← hs0, ← hs.fin_eq]
  have e : s3.step = (s3, 8) := by
    unfold IS.step
    rw [d1.1]
    rfl
  exact ⟨s3, by rw [IS.fin_stop (by rw [e]; simp), e], d1.2.2, d1.2.1⟩
/-- the bits that the statement writes -/
def joinL (a b : List Int) (j v i u : Nat) : List Int := evn ([0, 0, 0] ++ [0, 0, 0, 0, 0] ++ ofN (a.length : Int) 16 ++ ofN (65535 - (a.length : Int)) 16 ++ bts a ++ [0, 1, 0] ++ (lenC j ++ ofN (v : Int) (lE j)) ++ (hiB (i : Int) 5 ++ ofN (u : Int) (dE i)) ++ [0, 0, 0, 0, 0, 0, 0] ++ [1, 0, 0]) ++ ofN (b.length : Int) 16 ++ ofN (65535 - (b.length : Int)) 16 ++ bts b
theorem Bit.hi (v : Int) (n : Nat) : Bit (hiB v n) := fun x hx => Bit.ofN _ _ x (List.mem_reverse.1 hx)
theorem Bit.lenC (j : Nat) : Bit (lenC j) := by unfold Go.Proofs.Ytoegpffdbfkcpaa.lenC; split <;> exact Bit.hi _ _
theorem joinL_bit (a b : List Int) (j v i u : Nat) : Bit (joinL a b j v i u) := by
  have h3 : ∀ l : List Int, (l.all fun x => x == 0 || x == 1) = true → Bit l := fun l h x hx => by
    have := List.all_eq_true.1 h x hx
    simpa using this
  unfold joinL
  refine (((Bit.evn ?_).app (Bit.ofN _ _)).app (Bit.ofN _ _)).app (Bit.bts _)
  exact (((((((((h3 _ rfl).app (h3 _ rfl)).app (Bit.ofN _ _)).app (Bit.ofN _ _)).app (Bit.bts _)).app (h3 _ rfl)).app ((Bit.lenC _).app (Bit.ofN _ _))).app ((Bit.hi _ _).app (Bit.ofN _ _))).app (h3 _ rfl)).app (h3 _ rfl)
theorem joinL_even (a b : List Int) (j v i u : Nat) : (joinL a b j v i u).length % 8 = 0 := by
  unfold joinL
  rw [List.length_append, List.length_append, List.length_append, ofN_length, ofN_length, bts_length]
  have := evn_even ([0, 0, 0] ++ [0, 0, 0, 0, 0] ++ ofN (a.length : Int) 16 ++ ofN (65535 - (a.length : Int)) 16 ++ bts a ++ [0, 1, 0] ++ (lenC j ++ ofN (v : Int) (lE j)) ++ (hiB (i : Int) 5 ++ ofN (u : Int) (dE i)) ++ [0, 0, 0, 0, 0, 0, 0] ++ [1, 0, 0])
  omega
theorem join_all {a b : List Int} {i j v u M : Nat} (hj : j < 29) (hi : i < 30) (hv : v < 2 ^ lE j) (hu : u < 2 ^ dE i) (ha : ∀ x ∈ a, 0 ≤ x ∧ x < 256) (hb : ∀ x ∈ b, 0 ≤ x ∧ x < 256) (hla : a.length ≤ 65535) (hlb : b.length ≤ 65535) (hM : a.length + (lB j + v) + b.length ≤ M) (hD : dB i + u ≤ a.length) :
    ∃ t, (start (bts (byt (joinL a b j v i u))) M).fin = (t, 8) ∧ t.all = a ++ again a (dB i + u) (lB j + v) ++ b ∧ t.x = [] := by
  have hbit := joinL_bit a b j v i u
  have hev := joinL_even a b j v i u
  rw [even_bts hev hbit]
  obtain ⟨p, hp⟩ : ∃ p : List Int, p = List.replicate ((8 - ([0, 0, 0] ++ [0, 0, 0, 0, 0] ++ ofN (a.length : Int) 16 ++ ofN (65535 - (a.length : Int)) 16 ++ bts a ++ [0, 1, 0] ++ (lenC j ++ ofN (v : Int) (lE j)) ++ (hiB (i : Int) 5 ++ ofN (u : Int) (dE i)) ++ [0, 0, 0, 0, 0, 0, 0] ++ [1, 0, 0]).length % 8) % 8) 0 := ⟨_, rfl⟩
  have hp8 : p.length < 8 := by rw [hp, List.length_replicate]; omega
  have e : joinL a b j v i u = [0, 0, 0] ++ ([0, 0, 0, 0, 0] ++ (ofN (a.length : Int) 16 ++ ofN (65535 - (a.length : Int)) 16 ++ (bts a ++ ([0, 1, 0] ++ (lenC j ++ (ofN v (lE j) ++ (hiB (i : Int) 5 ++ (ofN u (dE i) ++ ([0, 0, 0, 0, 0, 0, 0] ++ ([1, 0, 0] ++ (p ++ (ofN (b.length : Int) 16 ++ ofN (65535 - (b.length : Int)) 16 ++ (bts b ++ []))))))))))))) := by
    unfold joinL evn
    rw [← hp]
    simp only [List.append_assoc, List.append_nil]
  rw [e] at hbit hev ⊢
  have hby : Bit ([0, 1, 0] ++ (lenC j ++ (ofN v (lE j) ++ (hiB (i : Int) 5 ++ (ofN u (dE i) ++ ([0, 0, 0, 0, 0, 0, 0] ++ ([1, 0, 0] ++ (p ++ (ofN (b.length : Int) 16 ++ ofN (65535 - (b.length : Int)) 16 ++ (bts b ++ [])))))))))) := fun x hx => hbit x (by
    refine List.mem_append_right _ (List.mem_append_right _ (List.mem_append_right _ (List.mem_append_right _ hx))))
  have hey : ([0, 1, 0] ++ (lenC j ++ (ofN (v : Int) (lE j) ++ (hiB (i : Int) 5 ++ (ofN (u : Int) (dE i) ++ ([0, 0, 0, 0, 0, 0, 0] ++ ([1, 0, 0] ++ (p ++ (ofN (b.length : Int) 16 ++ ofN (65535 - (b.length : Int)) 16 ++ (bts b ++ [])))))))))).length % 8 = 0 := by
    rw [List.length_append, List.length_append, List.length_append, List.length_append, List.length_append, ofN_length, ofN_length, bts_length] at hev
    have e1 : ([0, 0, 0] : List Int).length = 3 := rfl
    have e2 : ([0, 0, 0, 0, 0] : List Int).length = 5 := rfl
    rw [e1, e2] at hev
    omega
  exact join_law hj hi hv hu ha hb hla hlb hM hD (by decide) hp8 _ rfl _ rfl hby hey
end
end Go.Proofs.Ytoegpffdbfkcpaa
