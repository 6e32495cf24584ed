/-
  Several texts in one (written by pack2.py): IJoinP, BkX, FrqP, BkM, FixL, StpP.
-/
import Derived.Test.YtlgkiookobedcaaPk9
import Derived.Test.YtlgkiookobedcaaProg
import Derived.Test.YtlgkiookobedcaaPk4
import Derived.Test.YtlgkiookobedcaaPk3
import Derived.Test.YtlgkiookobedcaaPk6
import Derived.Test.YtlgkiookobedcaaPk1
namespace Go.Proofs.Ytlgkiookobedcaa
set_option linter.unusedVariables false
section
variable {s : IS} {y pad B : List Int}
theorem num_is {x z : List Int} {n : Nat} (h : x.length = n) : num (x ++ z) n = (numI x).toNat := by
  rw [num_app (by omega)]; unfold num; rw [List.take_of_length_le (by omega)]
theorem algn_pad {R : List Int} (hp : pad.length < 8) (hR : R.length % 8 = 0) : algn (pad ++ R) = R := by
  unfold algn
  rw [List.length_append, show (pad.length + R.length) % 8 = pad.length by omega, List.drop_left]
theorem drop_len {a R : List Int} {n : Nat} (h : a.length = n) : (a ++ R).drop n = R := by subst h; exact List.drop_left
theorem size_num (n : Nat) (h : n ≤ 65535) (z : List Int) : num (ofN n 16 ++ ofN (65535 - n) 16 ++ z) 32 = n + 65536 * (65535 - n) := by
  rw [num_is (by rw [List.length_append, ofN_length, ofN_length]), numI_append, ofN_length, numI_ofN, numI_ofN]
  have e : (2 : Int) ^ 16 = 65536 := by decide
  rw [e]
  omega
theorem even_bts (hy : y.length % 8 = 0) (hb : Bit y) : bts (byt y) = y := by
  have h := bts_byt hb
  have : rest y = [] := List.eq_nil_of_length_eq_zero (by rw [rest_length]; exact hy)
  rw [this, List.append_nil] at h
  exact h
theorem stored_block (hst : s.st = 0) {h : Int} (hh : h = 0 ∨ h = 1) (hx : s.x = [h, 0, 0] ++ (pad ++ (ofN B.length 16 ++ ofN (65535 - B.length) 16 ++ (bts B ++ y)))) (hp : pad.length < 8) (hy : y.length % 8 = 0) (hyb : Bit y) (hB : ∀ x ∈ B, 0 ≤ x ∧ x < 256) (hlen : B.length ≤ 65535) (hr : B.length ≤ s.rem) :
    IS.Steps s ({ s with last := decide (h = 1), kinds := s.kinds ++ [0], left := 0, all := s.all ++ B, rem := s.rem - B.length, x := y, st := 2 } : IS).over := by
  have hn3 : num s.x 3 = h.toNat := by
    rw [hx, num_is (x := [h, 0, 0]) (n := 3) rfl]
    rcases hh with rfl | rfl <;> rfl
  have hd3 : s.x.drop 3 = pad ++ (ofN B.length 16 ++ ofN (65535 - B.length) 16 ++ (bts B ++ y)) := by rw [hx]; rfl
  have hRl : (ofN B.length 16 ++ ofN (65535 - B.length) 16 ++ (bts B ++ y)).length = 32 + (8 * B.length + y.length) := by
    rw [List.length_append, List.length_append, List.length_append, ofN_length, ofN_length, bts_length]
  have e1 : s.step = ({ s with last := decide (h = 1), kinds := s.kinds ++ [0], x := ofN B.length 16 ++ ofN (65535 - B.length) 16 ++ (bts B ++ y), st := 1 }, 0) := by
    unfold IS.step
    rw [if_pos hst]
    unfold IS.block
    rw [if_neg (by rw [hx, List.length_append]; simp), hn3, if_pos (by rcases hh with rfl | rfl <;> rfl), hd3, algn_pad hp (by omega)]
    rcases hh with rfl | rfl <;> rfl
  have e2 : ({ s with last := decide (h = 1), kinds := s.kinds ++ [0], x := ofN B.length 16 ++ ofN (65535 - B.length) 16 ++ (bts B ++ y), st := 1 } : IS).step = ({ s with last := decide (h = 1), kinds := s.kinds ++ [0], x := bts B ++ y, left := B.length, st := 2 }, 0) := by
    unfold IS.step
    rw [if_neg (by simp), if_pos rfl]
    unfold IS.size
    simp only
    rw [if_neg (by rw [hRl]; omega), size_num _ hlen, if_pos (by omega), drop_len (by rw [List.length_append, ofN_length, ofN_length])]
    congr 2
    omega
  have hBy : ∀ x ∈ B ++ byt y, 0 ≤ x ∧ x < 256 := fun x hx => by
    rcases List.mem_append.1 hx with h1 | h1
    · exact hB x h1
    · exact byt_bd hyb x h1
  have hxy : bts (B ++ byt y) = bts B ++ y := by rw [bts_append, even_bts hy hyb]
  have h3 := stored_steps (s := { s with last := decide (h = 1), kinds := s.kinds ++ [0], x := bts B ++ y, left := B.length, st := 2 }) (B := B ++ byt y) (j := 0) hBy rfl (by show bts B ++ y = (bts (B ++ byt y)).drop 0; rw [hxy]; rfl) B.length (Nat.le_refl _) (by rw [List.length_append]; omega) hr
  have hrb : rb (B ++ byt y) (8 * (0 + B.length)) = y := by
    unfold rb
    rw [hxy, Nat.zero_add]
    exact drop_len (by rw [bts_length])
  rw [hrb, List.drop_zero, List.take_left] at h3
  have e4 : ({ s with last := decide (h = 1), kinds := s.kinds ++ [0], left := 0, all := s.all ++ B, rem := s.rem - B.length, x := y, st := 2 } : IS).step = (({ s with last := decide (h = 1), kinds := s.kinds ++ [0], left := 0, all := s.all ++ B, rem := s.rem - B.length, x := y, st := 2 } : IS).over, 0) := by
    unfold IS.step
    rw [if_neg (by simp), if_neg (by simp), if_pos rfl]
    unfold IS.stored
    rw [if_pos rfl]
  have s1 := IS.Steps.one (s := s) (by rw [e1])
  rw [e1] at s1
  have s2 := s1.tail (by rw [e2])
  rw [e2] at s2
  have h3' : IS.Steps { s with last := decide (h = 1), kinds := s.kinds ++ [0], x := bts B ++ y, left := B.length, st := 2 } { s with last := decide (h = 1), kinds := s.kinds ++ [0], left := 0, all := s.all ++ B, rem := s.rem - B.length, x := y, st := 2 } := by
    have := h3
    simp only [Nat.sub_self] at this
    exact this
  have s4 := (s2.trans h3').tail (by rw [e4])
  rw [e4] at s4
  exact s4
def hiB (v : Int) (n : Nat) : List Int := (ofN v n).reverse
theorem Bit.hi (v : Int) (n : Nat) : Bit (hiB v n) := fun x hx => Bit.ofN _ _ x (List.mem_reverse.1 hx)
end
end Go.Proofs.Ytlgkiookobedcaa
namespace Go.Proofs.Ytlgkiookobedcaa
open Go.RowKit
set_option linter.unusedVariables false
def symOk (lit dist : List Int) (t : Tok) : Prop := if t.len = 0 then 1 ≤ ix lit t.lit.toNat else 1 ≤ ix lit (257 + lenJ t.len) ∧ 1 ≤ ix dist (distJ t.dist)
structure TkSt (t : IS) (lit dist : List Int) (last : Bool) (x all : List Int) (rem : Nat) (kinds stops : List Int) (toks : List Tok) : Prop where
  st : t.st = 6
  lt : t.lt = lit
  ds : t.ds = dist
  last : t.last = last
  x : t.x = x
  all : t.all = all
  rem : t.rem = rem
  kinds : t.kinds = kinds
  stops : t.stops = stops
  toks : t.toks = toks
theorem sym_pos {l : List Int} {s : Nat} (h : 1 ≤ ix l s) : s < l.length := by
  rcases Nat.lt_or_ge s l.length with h1 | h1
  · exact h1
  · have : ix l s = 0 := by unfold ix; rw [List.getD_eq_getElem?_getD, List.getElem?_eq_none h1]; rfl
    omega
theorem next_bits {l : List Int} (hc : checkOf l 15 = 0) {s : Nat} (h : 1 ≤ ix l s) (z : List Int) : nextOf l (symBits l s ++ z) = ((s : Int), (ix l s).toNat, 0) ∧ (symBits l s ++ z).drop (ix l s).toNat = z := by
  obtain ⟨c1, c2, c3⟩ := check_ok' hc
  have hs := sym_pos h
  have h15 := c2 s hs
  have hlen := symBits_length l s
  refine ⟨sym_next (N := (ix l s).toNat) _ (by omega) (by omega) (by omega) hs c3 ?_ ?_, ?_⟩
  · rw [← hlen]; exact List.take_left
  · rw [List.length_append, hlen]; omega
  · rw [← hlen]; exact List.drop_left
section
variable {t : IS} {lit dist : List Int} {last : Bool} {x y all : List Int} {rem : Nat} {kinds stops : List Int} {toks : List Tok}
theorem IS.step6 (h : t.st = 6) : t.step = t.token := by
  unfold IS.step
  rw [if_neg (by omega), if_neg (by omega), if_neg (by omega), if_neg (by omega), if_neg (by omega), if_neg (by omega), if_pos h]
theorem IS.step7 (h : t.st = 7) : t.step = t.dist := by
  unfold IS.step
  rw [if_neg (by omega), if_neg (by omega), if_neg (by omega), if_neg (by omega), if_neg (by omega), if_neg (by omega), if_neg (by omega), if_pos h]
theorem tokn_step {k : Tok} {all' : List Int} (h : TkSt t lit dist last (tokB lit dist k ++ y) all rem kinds stops toks) (hcl : checkOf lit 15 = 0) (hcd : checkOf dist 15 = 0) (hl : lit.length ≤ 288) (hsnd : soundT k) (hlit : 0 ≤ k.lit ∧ k.lit < 256) (hok : symOk lit dist k) (hst : step all k = (0, all')) (hrem : all'.length ≤ all.length + rem) :
    ∃ t', IS.Steps t t' ∧ TkSt t' lit dist last y all' (rem - (all'.length - all.length)) kinds stops (toks ++ [k]) := by
  obtain ⟨T0, N, D⟩ := k
  obtain ⟨sl, rfl⟩ : ∃ sl : Nat, T0 = (sl : Int) := ⟨T0.toNat, by have h9 : 0 ≤ T0 := hlit.1; omega⟩
  have hsl : sl < 256 := by have h9 : (sl : Int) < 256 := hlit.2; omega
  unfold step at hst
  rw [if_neg (by simpa using hsnd)] at hst
  by_cases hN : N = 0
  · subst hN
    have hD : D = 0 := by unfold soundT at hsnd; rw [if_pos rfl] at hsnd; exact hsnd
    subst hD
    split at hst
    · simp at hst
    · rename_i hbig
      have e1 : all ++ [(sl : Int)] = all' := by simpa using hst
      subst e1
      have hx : t.x = symBits lit sl ++ y := by rw [h.x]; rfl
      have hs1 : 1 ≤ ix lit sl := by have h9 := hok; unfold symOk at h9; rw [if_pos rfl] at h9; exact h9
      obtain ⟨n1, n2⟩ := next_bits hcl hs1 y
      have e2 : t.step = ({ t with x := y, toks := t.toks ++ [Tok.mk (sl : Int) 0 0], all := t.all ++ [(sl : Int)].take t.rem, rem := t.rem - 1 }, if t.rem < 1 then 6 else 0) := by
        rw [IS.step6 h.st]
        unfold IS.token
        rw [h.lt, hx, n1]
        simp only
        rw [if_neg (by decide), if_pos (by omega), n2]
        rfl
      have hr1 : 1 ≤ t.rem := by rw [h.rem]; rw [List.length_append, List.length_singleton] at hrem; omega
      rw [if_neg (by omega)] at e2
      have h9 := IS.Steps.one (s := t) (by rw [e2])
      rw [e2] at h9
      refine ⟨_, h9, ⟨h.st, h.lt, h.ds, h.last, rfl, ?_, ?_, h.kinds, h.stops, ?_⟩⟩
      · show t.all ++ [(sl : Int)].take t.rem = _
        rw [h.all, List.take_of_length_le (by simpa using hr1)]
      · show t.rem - 1 = _
        rw [h.rem, List.length_append, List.length_singleton]; omega
      · show t.toks ++ _ = _
        rw [h.toks]
  · obtain ⟨⟨n3, n258⟩, ⟨d1, d2⟩, j28, q29⟩ := tok_bd hsnd hN
    replace n3 : 3 ≤ N := n3
    replace n258 : N ≤ 258 := n258
    replace d1 : 1 ≤ D := d1
    replace d2 : D ≤ 32768 := d2
    have hsl0 : (sl : Int) = 0 := by unfold soundT at hsnd; rw [if_neg hN] at hsnd; exact hsnd.1
    rw [hsl0] at hst h ⊢
    split at hst
    · simp at hst
    · rename_i hbig
      try rw [if_neg hN] at hst
      split at hst
      · simp at hst
      · rename_i hfar
        have e1 : all ++ again all D.toNat N.toNat = all' := by simpa using hst
        subst e1
        have hfar : ¬ (all.length : Int) < D := hfar
        have v1 := (lenJ_last n3).val_l n258
        have v1' := (lenJ_last n3).2.1
        have v2 := (distJ_last d1).val_d d2
        have v2' := (distJ_last d1).2.1
        have hjl : lenJ N ≤ 28 := j28
        have hqd : distJ D ≤ 29 := q29
        obtain ⟨so1, so2⟩ : 1 ≤ ix lit (257 + lenJ N) ∧ 1 ≤ ix dist (distJ D) := by have h9 := hok; unfold symOk at h9; rw [if_neg hN] at h9; exact h9
        have hx : t.x = symBits lit (257 + lenJ N) ++ (ofN (N - ((lB (lenJ N) : Nat) : Int)) (lE (lenJ N)) ++ (symBits dist (distJ D) ++ (ofN (D - ((dB (distJ D) : Nat) : Int)) (dE (distJ D)) ++ y))) := by
          rw [h.x]
          unfold tokB
          rw [if_neg hN]
          simp only [List.append_assoc]
        obtain ⟨j, hj⟩ : ∃ j, lenJ N = j := ⟨_, rfl⟩
        obtain ⟨q, hq⟩ : ∃ q, distJ D = q := ⟨_, rfl⟩
        rw [hj] at v1 v1' hjl so1 hx
        rw [hq] at v2 v2' hqd so2 hx
        obtain ⟨V, hV⟩ : ∃ V : Nat, N - ((lB j : Nat) : Int) = (V : Int) := ⟨(N - ((lB j : Nat) : Int)).toNat, by omega⟩
        obtain ⟨U, hU⟩ : ∃ U : Nat, D - ((dB q : Nat) : Int) = (U : Int) := ⟨(D - ((dB q : Nat) : Int)).toNat, by omega⟩
        rw [hV] at v1 hx
        rw [hU] at v2 hx
        obtain ⟨n1, n2⟩ := next_bits hcl so1 (ofN (V : Int) (lE j) ++ (symBits dist q ++ (ofN (U : Int) (dE q) ++ y)))
        have nv : num (ofN (V : Int) (lE j) ++ (symBits dist q ++ (ofN (U : Int) (dE q) ++ y))) (lE j) = V := by
          rw [num_is (ofN_length _ _), numI_ofN, Int.emod_eq_of_lt (by omega) (by exact_mod_cast v1)]
          rfl
        have e2 : t.step = ({ t with x := symBits dist q ++ (ofN (U : Int) (dE q) ++ y), len := lB j + V, st := 7 }, 0) := by
          rw [IS.step6 h.st]
          unfold IS.token
          rw [h.lt, hx, n1]
          simp only
          rw [if_neg (by decide), if_neg (by omega), if_neg (by omega), if_neg (by omega), n2, show (((257 + j : Nat) : Int) - 257).toNat = j by omega, if_neg (by rw [List.length_append, ofN_length]; omega), nv, drop_len (ofN_length _ _)]
        obtain ⟨s2, hs2⟩ : ∃ s2 : IS, s2 = { t with x := symBits dist q ++ (ofN (U : Int) (dE q) ++ y), len := lB j + V, st := 7 } := ⟨_, rfl⟩
        rw [← hs2] at e2
        have a2 : s2.st = 7 ∧ s2.lt = lit ∧ s2.ds = dist ∧ s2.last = last ∧ s2.x = symBits dist q ++ (ofN (U : Int) (dE q) ++ y) ∧ s2.len = lB j + V ∧ s2.all = all ∧ s2.rem = rem ∧ s2.kinds = kinds ∧ s2.stops = stops ∧ s2.toks = toks := by
          rw [hs2]; exact ⟨rfl, h.lt, h.ds, h.last, rfl, rfl, h.all, h.rem, h.kinds, h.stops, h.toks⟩
        clear hs2
        obtain ⟨b1, b2, b3, b4, b5, b6, b7, b8, b9, b10, b11⟩ := a2
        obtain ⟨m1, m2⟩ := next_bits hcd so2 (ofN (U : Int) (dE q) ++ y)
        have nu : num (ofN (U : Int) (dE q) ++ y) (dE q) = U := by
          rw [num_is (ofN_length _ _), numI_ofN, Int.emod_eq_of_lt (by omega) (by exact_mod_cast v2)]
          rfl
        have hlen : (again all (dB q + U) (lB j + V)).length = lB j + V := again_length _ _ _
        have hNn : N.toNat = lB j + V := by omega
        have hDn : D.toNat = dB q + U := by omega
        rw [List.length_append, hNn, hDn, hlen] at hrem
        have e3 : s2.step = ({ s2 with x := y, st := 6, toks := s2.toks ++ [Tok.mk 0 N D], all := all ++ again all (dB q + U) (lB j + V), rem := rem - (lB j + V) }, 0) := by
          rw [IS.step7 b1]
          unfold IS.dist
          rw [b3, b5, m1]
          simp only
          rw [if_neg (by decide), if_neg (by omega), m2, show ((q : Int)).toNat = q by omega, if_neg (by rw [List.length_append, ofN_length]; omega), nu, drop_len (ofN_length _ _)]
          unfold IS.text
          rw [if_neg (by rw [b7]; omega)]
          unfold IS.emit
          simp only
          rw [b7, b8, b6, hlen, if_neg (by omega), List.take_of_length_le (by rw [hlen]; omega), show ((lB j + V : Nat) : Int) = N by omega, show ((dB q + U : Nat) : Int) = D by omega, b3]
        have t1 := IS.Steps.one (s := t) (by rw [e2])
        rw [e2] at t1
        have t2 := t1.tail (by rw [e3])
        rw [e3] at t2
        rw [hNn, hDn]
        refine ⟨_, t2, ⟨rfl, b2, b3, b4, rfl, rfl, ?_, b9, b10, ?_⟩⟩
        · show rem - (lB j + V) = _
          rw [List.length_append, hlen]; omega
        · show s2.toks ++ _ = _
          rw [b11]
theorem toks_steps (hcl : checkOf lit 15 = 0) (hcd : checkOf dist 15 = 0) (hl : lit.length ≤ 288) : ∀ (l : List Tok) (t : IS) (all all' : List Int) (rem : Nat) (toks : List Tok), TkSt t lit dist last (toksB lit dist l ++ y) all rem kinds stops toks → (∀ k ∈ l, soundT k ∧ (0 ≤ k.lit ∧ k.lit < 256) ∧ symOk lit dist k) → expand all l = (0, all') → all'.length ≤ all.length + rem →
    ∃ t', IS.Steps t t' ∧ TkSt t' lit dist last y all' (rem - (all'.length - all.length)) kinds stops (toks ++ l)
  | [], t, all, all', rem, toks, h, _, he, _ => by
    have e : all = all' := by simpa [expand] using he
    subst e
    exact ⟨t, .refl t, by rw [List.append_nil, Nat.sub_self, Nat.sub_zero]; exact h⟩
  | k :: l, t, all, all', rem, toks, h, hk, he, hr => by
    rw [expand_cons] at he
    obtain ⟨k1, k2, k3⟩ := hk k List.mem_cons_self
    by_cases h0 : (step all k).1 = 0
    · rw [if_pos h0] at he
      have hs := step_len h0
      have hst : step all k = (0, (step all k).2) := by rw [← h0]
      have hle : (step all k).2.length ≤ all'.length := by
        obtain ⟨z, hz⟩ := expand_ok (out := (step all k).2) (l := l) (by rw [he])
        rw [he] at hz
        rw [show all' = (step all k).2 ++ z from hz, List.length_append]; omega
      have h' : TkSt t lit dist last (tokB lit dist k ++ (toksB lit dist l ++ y)) all rem kinds stops toks := by
        have : toksB lit dist (k :: l) ++ y = tokB lit dist k ++ (toksB lit dist l ++ y) := by
          show (tokB lit dist k ++ toksB lit dist l) ++ y = _
          rw [List.append_assoc]
        rw [← this]; exact h
      obtain ⟨t1, s1, h1⟩ := tokn_step h' hcl hcd hl k1 k2 k3 hst (by omega)
      obtain ⟨t2, s2, h2⟩ := toks_steps hcl hcd hl l t1 _ all' _ _ h1 (fun q hq => hk q (List.mem_cons_of_mem _ hq)) he (by omega)
      refine ⟨t2, s1.trans s2, ?_⟩
      rw [List.append_assoc] at h2
      have e : rem - ((step all k).2.length - all.length) - (all'.length - (step all k).2.length) = rem - (all'.length - all.length) := by omega
      rw [e] at h2
      exact h2
    · rw [if_neg h0] at he
      rw [he] at h0
      exact absurd rfl h0
theorem blk_steps {l : List Tok} {all' : List Int} (h : TkSt t lit dist last (blkB lit dist l ++ y) all rem kinds stops toks) (hcl : checkOf lit 15 = 0) (hcd : checkOf dist 15 = 0) (hl : lit.length ≤ 288) (h256 : 1 ≤ ix lit 256) (hk : ∀ k ∈ l, soundT k ∧ (0 ≤ k.lit ∧ k.lit < 256) ∧ symOk lit dist k) (he : expand all l = (0, all')) (hr : all'.length ≤ all.length + rem) :
    ∃ t', IS.Steps t ({ t' with x := y } : IS).over ∧ TkSt t' lit dist last (symBits lit 256 ++ y) all' (rem - (all'.length - all.length)) kinds stops (toks ++ l) := by
  have h' : TkSt t lit dist last (toksB lit dist l ++ (symBits lit 256 ++ y)) all rem kinds stops toks := by
    have : blkB lit dist l ++ y = toksB lit dist l ++ (symBits lit 256 ++ y) := by unfold blkB; rw [List.append_assoc]
    rw [← this]; exact h
  obtain ⟨t1, s1, h1⟩ := toks_steps hcl hcd hl l t all all' rem toks h' hk he hr
  obtain ⟨n1, n2⟩ := next_bits hcl h256 y
  have e : t1.step = (({ t1 with x := y } : IS).over, 0) := by
    rw [IS.step6 h1.st]
    unfold IS.token
    rw [h1.lt, h1.x, n1]
    simp only
    rw [if_neg (by decide), if_neg (by decide), if_pos (by decide), n2]
  have s2 := s1.tail (by rw [e])
  rw [e] at s2
  exact ⟨t1, s2, h1⟩
end
end Go.Proofs.Ytlgkiookobedcaa
namespace Go.Proofs.Ytlgkiookobedcaa
open Go.RowKit
set_option linter.unusedVariables false
def bump (l : List Int) (i : Nat) : List Int := l.set i (ix l i + 1)
theorem bump_len (l : List Int) (i : Nat) : (bump l i).length = l.length := by simp [bump]
theorem fq_set (l : List Int) (i : Nat) (v : Int) (j : Nat) : ix (l.set i v) j = if i = j ∧ j < l.length then v else ix l j := by
  unfold ix
  simp only [List.getD_eq_getElem?_getD, List.getElem?_set]
  by_cases h : i = j
  · subst h
    by_cases h2 : i < l.length
    · simp [h2]
    · simp [h2]
  · simp [h]
theorem ix_bump (l : List Int) (i j : Nat) : ix (bump l i) j = if i = j ∧ j < l.length then ix l j + 1 else ix l j := by
  unfold bump
  rw [fq_set]
  by_cases h : i = j ∧ j < l.length
  · rw [if_pos h, if_pos h, h.1]
  · rw [if_neg h, if_neg h]
def fqS (p : List Int × List Int) (t : Tok) : List Int × List Int :=
  if t.len = 0 then (bump p.1 t.lit.toNat, p.2) else (bump p.1 (257 + lenJ t.len), bump p.2 (distJ t.dist))
def fq0 : List Int × List Int := (zrI 286 256, List.replicate 30 0)
where zrI (n k : Nat) : List Int := (List.replicate n (0 : Int)).set k 1
def fqT (l : List Tok) : List Int × List Int := l.foldl fqS fq0
theorem fqT_snoc (l : List Tok) (t : Tok) : fqT (l ++ [t]) = fqS (fqT l) t := by simp [fqT]
theorem fqT_take {l : List Tok} {k : Nat} (h : k < l.length) : fqT (l.take (k + 1)) = fqS (fqT (l.take k)) (tokAt l k) := by rw [tok_take h, fqT_snoc]
theorem fqT_nil : fqT [] = fq0 := rfl
theorem fold_snoc {α β : Type} {motive : List α → Prop} (h0 : motive []) (h1 : ∀ l t, motive l → motive (l ++ [t])) (l : List α) : motive l := by
  rw [← List.reverse_reverse l]
  induction l.reverse with
  | nil => exact h0
  | cons a r ih => rw [List.reverse_cons]; exact h1 _ _ ih
theorem fq_len (l : List Tok) : (fqT l).1.length = 286 ∧ (fqT l).2.length = 30 := by
  refine fold_snoc (β := Nat) (motive := fun l => (fqT l).1.length = 286 ∧ (fqT l).2.length = 30) ?_ ?_ l
  · exact ⟨(List.length_set ..).trans List.length_replicate, List.length_replicate⟩
  · intro l t h
    rw [fqT_snoc]
    unfold fqS
    split
    · exact ⟨by rw [bump_len]; exact h.1, h.2⟩
    · exact ⟨by rw [bump_len]; exact h.1, by rw [bump_len]; exact h.2⟩
theorem fq_bd (l : List Tok) : ∀ i, (0 ≤ ix (fqT l).1 i ∧ ix (fqT l).1 i ≤ l.length + 1) ∧ (0 ≤ ix (fqT l).2 i ∧ ix (fqT l).2 i ≤ l.length) := by
  refine fold_snoc (β := Nat) (motive := fun l => ∀ i, (0 ≤ ix (fqT l).1 i ∧ ix (fqT l).1 i ≤ l.length + 1) ∧ (0 ≤ ix (fqT l).2 i ∧ ix (fqT l).2 i ≤ l.length)) ?_ ?_ l
  · intro i
    rw [fqT_nil]
    unfold fq0 fq0.zrI
    rw [fq_set]
    have h0 : ∀ n i : Nat, ix (List.replicate n (0 : Int)) i = 0 := fun n i => by
      unfold ix
      rw [List.getD_eq_getElem?_getD, List.getElem?_replicate]
      split <;> rfl
    rw [h0, h0]
    split <;> simp
  · intro l t h i
    rw [fqT_snoc, List.length_append, List.length_singleton]
    unfold fqS
    have hi := h i
    split
    · simp only
      rw [ix_bump]
      split <;> omega
    · simp only
      rw [ix_bump, ix_bump]
      split <;> split <;> omega
theorem fq_end (l : List Tok) : 1 ≤ ix (fqT l).1 256 := by
  refine fold_snoc (β := Nat) (motive := fun l => 1 ≤ ix (fqT l).1 256) ?_ ?_ l
  · rw [fqT_nil]; decide +kernel
  · intro l t h
    rw [fqT_snoc]
    unfold fqS
    split
    · simp only; rw [ix_bump]; split <;> omega
    · simp only; rw [ix_bump]; split <;> omega
def exT (t : Tok) : Nat := (if 3 ≤ t.len ∧ t.len ≤ 258 then lE (lenJ t.len) else 0) + (if 1 ≤ t.dist ∧ t.dist ≤ 32768 then dE (distJ t.dist) else 0)
def exs (l : List Tok) : Nat := (l.map exT).sum
theorem exs_take {l : List Tok} {k : Nat} (h : k < l.length) : exs (l.take (k + 1)) = exs (l.take k) + exT (tokAt l k) := by rw [tok_take h]; simp [exs]
theorem exT_le (t : Tok) : exT t ≤ 18 := by
  unfold exT
  have h1 : (if 3 ≤ t.len ∧ t.len ≤ 258 then lE (lenJ t.len) else 0) ≤ 5 := by
    split
    · rename_i h; exact (lB_bd (lenJ t.len) (by have := (lenJ_last h.1).1; omega)).2.2
    · omega
  have h2 : (if 1 ≤ t.dist ∧ t.dist ≤ 32768 then dE (distJ t.dist) else 0) ≤ 13 := by
    split
    · rename_i h; exact (dB_bd' (distJ t.dist) (by have := (distJ_last h.1).1; omega)).2.2
    · omega
  omega
theorem exs_le : ∀ l : List Tok, exs l ≤ 18 * l.length
  | [] => by simp [exs]
  | t :: l => by
    have h1 := exT_le t
    have h2 := exs_le l
    show exT t + exs l ≤ _
    rw [List.length_cons]; omega
theorem code_len' {n : Int} {v : Value} (h : CodeIs lB lE 3 258 257 28 n v) : ∃ a b : Int, v = .tuple #[.int .i64 a, .int .i64 ((if 3 ≤ n ∧ n ≤ 258 then lE (lenJ n) else 0 : Nat) : Int), .int .i64 b] := by
  by_cases h3 : 3 ≤ n ∧ n ≤ 258
  · rw [if_pos h3]; exact ⟨_, _, code_len h h3⟩
  · rw [if_neg h3]
    rcases h with ⟨_, h⟩ | ⟨h, _⟩
    · exact ⟨0, 0, h⟩
    · exact absurd h h3
theorem code_dist' {n : Int} {v : Value} (h : CodeIs dB dE 1 32768 0 29 n v) : ∃ a b : Int, v = .tuple #[.int .i64 a, .int .i64 ((if 1 ≤ n ∧ n ≤ 32768 then dE (distJ n) else 0 : Nat) : Int), .int .i64 b] := by
  by_cases h3 : 1 ≤ n ∧ n ≤ 32768
  · rw [if_pos h3]; exact ⟨_, _, code_dist h h3⟩
  · rw [if_neg h3]
    rcases h with ⟨_, h⟩ | ⟨h, _⟩
    · exact ⟨0, 0, h⟩
    · exact absurd h h3
end Go.Proofs.Ytlgkiookobedcaa
namespace Go.Proofs.Ytlgkiookobedcaa
open Go.RowKit
set_option linter.unusedVariables false
def bkMay (kind : Int) (toks : List Tok) (m : Nat) : Bool :=
  if kind = 0 then decide (m ≤ 65535) else if ¬ (kind = 1 ∨ kind = 2) ∨ 1048576 ≤ toks.length then false else toks.all fun t => decide (soundT t)
theorem bkMay_true {toks : List Tok} (h : ∀ i, i < toks.length → soundT (tokAt toks i)) : (toks.all fun t => decide (soundT t)) = true := by
  rw [List.all_eq_true]
  intro t ht
  obtain ⟨i, hi, rfl⟩ := List.getElem_of_mem ht
  have := h i hi
  have e : tokAt toks i = toks[i] := by simp [tokAt, hi]
  rw [e] at this
  exact decide_eq_true this
theorem bkMay_false {toks : List Tok} {i : Nat} (hi : i < toks.length) (h : ¬ soundT (tokAt toks i)) : (toks.all fun t => decide (soundT t)) = false := by
  rw [List.all_eq_false]
  have e : tokAt toks i = toks[i] := by simp [tokAt, hi]
  rw [e] at h
  exact ⟨toks[i], List.getElem_mem hi, by simpa using h⟩
set_option maxRecDepth 100000 in
set_option maxHeartbeats 2000000 in
theorem may_any (w : World) (kind : Int) (At : Option Addr) (nt ct : Nat) (toks : List Tok) (hT : RdT w w.heap.size At nt toks) (hnt : (nt : Int) ≤ 4611686018427387904) (Ar : Option Addr) (m cr : Nat) :
    Calls Try.prog 44 #[.int .i64 kind, .slice At nt ct, .slice Ar m cr] w fun e w' => e = .returned (.bool (bkMay kind toks m)) ∧ Below w.heap.size w w' := by
  have hnl := hT.1
  by_cases h0 : kind = 0
  · subst h0
    have hv : bkMay 0 toks m = decide (m ≤ 65535) := by unfold bkMay; rw [if_pos rfl]
    rw [hv]
    clear hv hT hnl
    by_cases hm : m ≤ 65535
    · have hmI : (m : Int) ≤ 65535 := by omega
      go_enter Try.func44, Try.ntmps44
      go_wp2_with fail
      go_ret
      exact ⟨by simp; omega, Below.refl _ _⟩
    · have hmI : ¬ (m : Int) ≤ 65535 := by omega
      go_enter Try.func44, Try.ntmps44
      go_wp2_with fail
      go_ret
      exact ⟨by simp, Below.refl _ _⟩
  · have h0' : (kind == 0) = false := by simpa using h0
    by_cases hbad : ¬ (kind = 1 ∨ kind = 2) ∨ 1048576 ≤ toks.length
    · have hv : bkMay kind toks m = false := by unfold bkMay; rw [if_neg h0, if_pos hbad]
      rw [hv]
      rw [← hnl] at hbad
      by_cases h1 : kind = 1
      · subst h1
        have hn : (1048576 : Int) ≤ (nt : Int) := by omega
        have hnN : 1048576 ≤ nt := by omega
        clear hv hT hnl hbad
        go_enter Try.func44, Try.ntmps44
        go_wp2_with fail
        go_ret
        exact ⟨by simp, Below.refl _ _⟩
      · have h1' : (kind == 1) = false := by simpa using h1
        by_cases h2 : kind = 2
        · subst h2
          have hn : (1048576 : Int) ≤ (nt : Int) := by omega
          have hnN : 1048576 ≤ nt := by omega
          clear hv hT hnl hbad
          go_enter Try.func44, Try.ntmps44
          go_wp2_with fail
          go_ret
          exact ⟨by simp, Below.refl _ _⟩
        · have h2' : (kind == 2) = false := by simpa using h2
          clear hv hT hnl hbad
          go_enter Try.func44, Try.ntmps44
          go_wp2_with fail
          go_ret
          exact ⟨by simp, Below.refl _ _⟩
    · have hv : bkMay kind toks m = toks.all fun t => decide (soundT t) := by unfold bkMay; rw [if_neg h0, if_neg hbad]
      have HV := Lib.hid hv
      have hk12 : kind = 1 ∨ kind = 2 := by omega
      have hn : ¬ (1048576 : Int) ≤ (nt : Int) := by omega
      have hnN : ¬ 1048576 ≤ nt := by omega
      have hnd : decide (1048576 ≤ nt) = false := decide_eq_false hnN
      have hndI : decide ((1048576 : Int) ≤ (nt : Int)) = false := decide_eq_false hn
      have HT := Lib.hid (⟨hT, hnl⟩ : _ ∧ _)
      have hntI : (0 : Int) ≤ (nt : Int) := by omega
      clear hv hT hnl hbad
      rcases hk12 with rfl | rfl
      all_goals
        go_enter Try.func44, Try.ntmps44
        go_wp2_with fail
        go_loopg [27] nt (fun (gk : Nat) (v27 : Value) wx => ∃ k : Nat, v27 = .int .i64 k ∧ k ≤ nt ∧ Hid (∀ i, i < k → soundT (tokAt toks i)) ∧ Hid (Below w.heap.size w wx) ∧ Hid (gk = nt - k))
        case atStart => exact ⟨0, rfl, Nat.zero_le _, fun i hi => absurd hi (Nat.not_lt_zero _), Below.refl _ _, rfl⟩
        case round =>
          obtain ⟨k, rfl, hk, hall, hb, hg⟩ := hrel
          by_cases hlt : k < nt
          · have hkI : (k : Int) < (nt : Int) ∧ (0 : Int) ≤ (k : Int) := by omega
            obtain ⟨ad, hA, hbl, hcs⟩ := (HT.out.1.below hb.out).2 (by omega)
            obtain ⟨a0, a1, a2⟩ := hcs k hlt
            rw [addr_next _ _ _ (by omega)] at a1 a2
            obtain ⟨⟨T0, N, D⟩, ht⟩ : ∃ t : Tok, tokAt toks k = t := ⟨_, rfl⟩
            rw [ht] at a0 a1 a2
            replace a0 : wr.cell? (ad.add (k * 3)) = some (.int .u8 T0) := a0
            replace a1 : wr.cell? { block := (ad.add (k * 3)).block, off := (ad.add (k * 3)).off + 1 } = some (.int .i64 N) := a1
            replace a2 : wr.cell? { block := (ad.add (k * 3)).block, off := (ad.add (k * 3)).off + 2 } = some (.int .i64 D) := a2
            have HX := Lib.hid (⟨ht, hlt⟩ : _ ∧ _)
            subst hA
            clear hbl hcs ht hlt
            have hbA := Lib.hid (hb.out.alloc hb.out.size (.cells #[.int .u8 T0, .int .i64 N, .int .i64 D] 68))
            by_cases hs : soundB T0 N D = true
            · have hsn : soundT (tokAt toks k) := by rw [HX.out.1]; rw [soundB_iff] at hs; exact of_decide_eq_true hs
              have HSN := Lib.hid hsn
              clear hsn
              go_wp2_with fail
              refine (sound_any T0 N D _).mono ?_
              rintro e w5 ⟨rfl, hb5⟩
              rw [hs]
              have hb6 := Lib.hid (hbA.out.trans (hb5.mono hbA.out.size))
              clear hb5
              go_wp2_with fail
              go_roundg (nt - (k + 1))
              case measure => have := hg.out; have := HX.out.2; omega
              case rel => exact ⟨k + 1, by go_num, HX.out.2, fun i hi => by
                by_cases e : i = k
                · subst e; exact HSN.out
                · exact hall.out i (by omega), hb6, rfl⟩
            · have hsf : soundB T0 N D = false := by simpa using hs
              have hsn : ¬ soundT (tokAt toks k) := fun h => by rw [HX.out.1] at h; rw [soundB_iff] at hs; exact hs (decide_eq_true h)
              have HSN := Lib.hid (HV.out.trans (bkMay_false (by rw [← HT.out.2]; exact HX.out.2) hsn))
              clear hsn hs
              go_wp2_with fail
              refine (sound_any T0 N D _).mono ?_
              rintro e w5 ⟨rfl, hb5⟩
              rw [hsf]
              have hb6 := Lib.hid (hbA.out.trans (hb5.mono hbA.out.size))
              clear hb5
              go_wp2_with fail
              go_ret
              exact ⟨ret_bool HSN.out.symm, hb6.out⟩
          · obtain rfl : k = nt := by omega
            have hkI : ¬ (k : Int) < (k : Int) := by omega
            have HSN := Lib.hid (HV.out.trans (bkMay_true (fun i hi => hall.out i (by rw [HT.out.2]; exact hi))))
            clear hlt
            go_wp2_with fail
            go_ret
            exact ⟨ret_bool HSN.out.symm, hb.out⟩
end Go.Proofs.Ytlgkiookobedcaa
namespace Go.Proofs.Ytlgkiookobedcaa
open Go.RowKit
set_option linter.unusedVariables false
theorem xint_info : (Try.prog.info? 3).map (fun i => (i.zero, i.size, i.bytes)) = some (some (.int .i64 0), 1, 8) := by kernel_rfl
def FixPost (w : World) (e : Ending) (w' : World) : Prop :=
  ∃ A c A' c', e = .returned (.tuple #[.slice A 288 c, .slice A' 32 c']) ∧ OwnI .i64 w' w.heap.size 3 A 288 c fixL ∧ OwnI .i64 w' w.heap.size 3 A' 32 c' fixD ∧ Below w.heap.size w w'
def FixR (w : World) (l i : Value) (wr : World) : Prop := ∃ (k c : Nat) (A : Option Addr), k ≤ 288 ∧ i = .int .i64 k ∧ l = .slice A k c ∧ OwnI .i64 wr w.heap.size 3 A k c (fixL.take k) ∧ Below w.heap.size w wr
def FixS (w : World) (A0 : Option Addr) (n0 c0 : Nat) (l i : Value) (wr : World) : Prop := ∃ (k c : Nat) (A : Option Addr), k ≤ 32 ∧ i = .int .i64 k ∧ l = .slice A k c ∧ OwnI .i64 wr w.heap.size 3 A k c (fixD.take k) ∧ OwnI .i64 wr w.heap.size 3 A0 n0 c0 fixL ∧ (∀ q, blkOf A = some q → blkOf A0 ≠ some q) ∧ Below w.heap.size w wr
theorem fixL_len : fixL.length = 288 := by decide +kernel
theorem fixD_len : fixD.length = 32 := by simp [fixD]
theorem fixL_take {k : Nat} (h : k < 288) : fixL.take (k + 1) = fixL.take k ++ [ix fixL k] := by
  rw [List.take_succ_eq_append_getElem (by rw [fixL_len]; exact h)]
  simp [ix, List.getD_eq_getElem?_getD, List.getElem?_eq_getElem (show k < fixL.length by rw [fixL_len]; exact h)]
theorem fixL_at : ∀ k, k < 288 → ix fixL k = if k < 144 then 8 else if k < 256 then 9 else if k < 280 then 7 else 8 := by decide +kernel
theorem fixD_take {k : Nat} (h : k < 32) : fixD.take (k + 1) = fixD.take k ++ [5] := by
  unfold fixD
  rw [List.take_replicate, List.take_replicate, Nat.min_eq_left (by omega), Nat.min_eq_left (by omega), List.replicate_succ']
set_option maxRecDepth 100000 in
set_option maxHeartbeats 4000000 in
theorem fixed_any (w : World) : Calls Try.prog 47 #[] w (FixPost w) := by
  obtain ⟨i0, hi, hz0, hz1, hz2⟩ := info_parts xint_info
  have Hi := Lib.hid hi
  have Hz0 := Lib.hid hz0
  have Hz1 := Lib.hid hz1
  have Hz2 := Lib.hid hz2
  clear hi hz0 hz1 hz2
  go_enter Try.func47, Try.ntmps47
  go_wp2
  go_loopw [0, 3] (FixR w) (fun _ i _ => 288 - (intOf i).toNat)
  case atStart => exact ⟨0, 0, none, Nat.zero_le _, rfl, rfl, OwnI.nil_, Below.refl _ _⟩
  case round =>
    obtain ⟨k, c, A, hk, rfl, rfl, ho, hb⟩ := hrel
    by_cases hlt : k < 288
    · have hkI : (k : Int) < 288 ∧ (0 : Int) ≤ k := by omega
      have ht := fixL_take hlt
      rw [fixL_at k hlt] at ht
      have hbs := hb.size
      have hcs : (k : Int) < 144 ∨ (¬ (k : Int) < 144 ∧ (280 : Int) ≤ k) ∨ (¬ (k : Int) < 144 ∧ ¬ (280 : Int) ≤ k ∧ (k : Int) < 256) ∨ (¬ (k : Int) < 144 ∧ ¬ (280 : Int) ≤ k ∧ ¬ (k : Int) < 256) := by omega
      rcases hcs with h1 | ⟨h1, h2⟩ | ⟨h1, h2, h3⟩ | ⟨h1, h2, h3⟩
      · rw [if_pos (by omega)] at ht
        have HT := Lib.hid ht
        clear ht
        have hoA := ho.alloc (.cells #[.int .i64 8] 3)
        have hbA := hb.alloc hb.size (.cells #[.int .i64 8] 3)
        go_wp2_with (at_builtin; (refine wpList_app .i64 w.heap.size 3 i0 8 rfl (.tmp 16) (.tmp 17) _ rfl Try.underlying32 Hi.out Hz0.out Hz1.out Hz2.out rfl hoA rfl (RdI.lit .i64 wr [8] 3) (by omega) (by omega) hbA.size ?_)
                     intro A4 d4 w4 hown4 hg4 hat4)
        go_roundw
        case rel => exact ⟨k + 1, d4, A4, hlt, by go_num, rfl, by rw [HT.out]; exact hown4, hbA.grown hg4 hbA.size fun q hq => (ho.2.lt hq).1⟩
        case measure => simp [intOf]; omega
      · rw [if_neg (by omega), if_neg (by omega), if_neg (by omega)] at ht
        have HT := Lib.hid ht
        clear ht
        have hoA := ho.alloc (.cells #[.int .i64 8] 3)
        have hbA := hb.alloc hb.size (.cells #[.int .i64 8] 3)
        go_wp2_with (at_builtin; (refine wpList_app .i64 w.heap.size 3 i0 8 rfl (.tmp 16) (.tmp 17) _ rfl Try.underlying32 Hi.out Hz0.out Hz1.out Hz2.out rfl hoA rfl (RdI.lit .i64 wr [8] 3) (by omega) (by omega) hbA.size ?_)
                     intro A4 d4 w4 hown4 hg4 hat4)
        go_roundw
        case rel => exact ⟨k + 1, d4, A4, hlt, by go_num, rfl, by rw [HT.out]; exact hown4, hbA.grown hg4 hbA.size fun q hq => (ho.2.lt hq).1⟩
        case measure => simp [intOf]; omega
      · rw [if_neg (by omega), if_pos (by omega)] at ht
        have HT := Lib.hid ht
        clear ht
        have hoA := ho.alloc (.cells #[.int .i64 9] 3)
        have hbA := hb.alloc hb.size (.cells #[.int .i64 9] 3)
        go_wp2_with (at_builtin; (refine wpList_app .i64 w.heap.size 3 i0 8 rfl (.tmp 22) (.tmp 23) _ rfl Try.underlying32 Hi.out Hz0.out Hz1.out Hz2.out rfl hoA rfl (RdI.lit .i64 wr [9] 3) (by omega) (by omega) hbA.size ?_)
                     intro A4 d4 w4 hown4 hg4 hat4)
        go_roundw
        case rel => exact ⟨k + 1, d4, A4, hlt, by go_num, rfl, by rw [HT.out]; exact hown4, hbA.grown hg4 hbA.size fun q hq => (ho.2.lt hq).1⟩
        case measure => simp [intOf]; omega
      · rw [if_neg (by omega), if_neg (by omega), if_pos (by omega)] at ht
        have HT := Lib.hid ht
        clear ht
        have hoA := ho.alloc (.cells #[.int .i64 7] 3)
        have hbA := hb.alloc hb.size (.cells #[.int .i64 7] 3)
        go_wp2_with (at_builtin; (refine wpList_app .i64 w.heap.size 3 i0 8 rfl (.tmp 6) (.tmp 7) _ rfl Try.underlying32 Hi.out Hz0.out Hz1.out Hz2.out rfl hoA rfl (RdI.lit .i64 wr [7] 3) (by omega) (by omega) hbA.size ?_)
                     intro A4 d4 w4 hown4 hg4 hat4)
        go_roundw
        case rel => exact ⟨k + 1, d4, A4, hlt, by go_num, rfl, by rw [HT.out]; exact hown4, hbA.grown hg4 hbA.size fun q hq => (ho.2.lt hq).1⟩
        case measure => simp [intOf]; omega
    · have hk2 : Hid (k = 288) := by show _ = _; omega
      rw [List.take_of_length_le (by rw [fixL_len]; omega)] at ho
      have hge : ¬ (k : Int) < 288 := by omega
      obtain ⟨n0, hn0⟩ : ∃ n0, n0 = k := ⟨_, rfl⟩
      subst hn0
      clear hlt hk
      go_wp2
      go_loopw [1, 26] (FixS w A n0 c) (fun _ i _ => 32 - (intOf i).toNat)
      case atStart => exact ⟨0, 0, none, Nat.zero_le _, rfl, rfl, OwnI.nil_, ho, by simp [blkOf], hb⟩
      case round =>
        clear ho hb
        obtain ⟨k, d, A1, hk, rfl, rfl, ho, ho0, hap, hb⟩ := hrel
        by_cases hlt : k < 32
        · have hkI : (k : Int) < 32 ∧ (0 : Int) ≤ k := by omega
          have HT := Lib.hid (fixD_take hlt)
          have hoA := ho.alloc (.cells #[.int .i64 5] 3)
          have ho0A := ho0.alloc (.cells #[.int .i64 5] 3)
          have hbA := hb.alloc hb.size (.cells #[.int .i64 5] 3)
          go_wp2_with (at_builtin; (refine wpList_app .i64 w.heap.size 3 i0 8 rfl (.tmp 28) (.tmp 29) _ rfl Try.underlying32 Hi.out Hz0.out Hz1.out Hz2.out rfl hoA rfl (RdI.lit .i64 wr [5] 3) (by omega) (by omega) hbA.size ?_)
                       intro A4 d4 w4 hown4 hg4 hat4)
          go_roundw
          case rel =>
            refine ⟨k + 1, d4, A4, hlt, by go_num, rfl, by rw [HT.out]; exact hown4, ho0A.grown hg4 ?_, fun q hq e => ?_, hbA.grown hg4 hbA.size fun q hq => (ho.2.lt hq).1⟩
            · cases h0 : blkOf A with
              | none => exact .inr rfl
              | some q => exact .inl fun e => hap q e.symm h0
            · rcases hat4 with h4 | h4
              · exact hap q (by rw [← h4]; exact hq) e
              · have := (ho0A.2.lt e).2
                rw [h4] at hq; injection hq with hq; omega
          case measure => simp [intOf]; omega
        · obtain rfl : k = 32 := by omega
          rw [List.take_of_length_le (by rw [fixD_len]; omega)] at ho
          go_wp2
          go_ret2
          have := hk2.out
          subst this
          exact ⟨A, c, A1, d, rfl, ho0, ho, hb⟩
end Go.Proofs.Ytlgkiookobedcaa
namespace Go.Proofs.Ytlgkiookobedcaa
open Go.RowKit
set_option linter.unusedVariables false
section
variable {s t t' : IS} {x y b : List Int} {n m : Nat}
theorem IS.step_lack (h : s.step.2 = 5) : s.step.1 = s := by
  unfold IS.step at h ⊢
  have hem : ∀ (s : IS) b, (s.emit b).2 ≠ 5 := fun s b => by unfold IS.emit; simp only; split <;> decide
  by_cases h0 : s.st = 0
  · rw [if_pos h0] at h ⊢; unfold IS.block at h ⊢; revert h; repeat' split
    all_goals simp
  rw [if_neg h0] at h ⊢
  by_cases h1 : s.st = 1
  · rw [if_pos h1] at h ⊢; unfold IS.size at h ⊢; revert h; repeat' split
    all_goals simp
  rw [if_neg h1] at h ⊢
  by_cases h2 : s.st = 2
  · rw [if_pos h2] at h ⊢; unfold IS.stored at h ⊢; revert h; repeat' split
    · simp
    · simp
    · intro h; exact absurd h (hem _ _)
  rw [if_neg h2] at h ⊢
  by_cases h3 : s.st = 3
  · rw [if_pos h3] at h ⊢; unfold IS.sizes at h ⊢; revert h; repeat' split
    all_goals simp
  rw [if_neg h3] at h ⊢
  by_cases h4 : s.st = 4
  · rw [if_pos h4] at h ⊢; unfold IS.heads at h ⊢; revert h; repeat' split
    all_goals simp
  rw [if_neg h4] at h ⊢
  by_cases h5 : s.st = 5
  · rw [if_pos h5] at h ⊢; unfold IS.lengths IS.length IS.repeat_ at h ⊢
    revert h; repeat' split
    all_goals simp
  rw [if_neg h5] at h ⊢
  by_cases h6 : s.st = 6
  · rw [if_pos h6] at h ⊢; unfold IS.token at h ⊢
    revert h; repeat' split
    all_goals first
      | (intro h; exact absurd h (hem _ _))
      | simp
  rw [if_neg h6] at h ⊢
  by_cases h7 : s.st = 7
  · rw [if_pos h7] at h ⊢; unfold IS.dist IS.text at h ⊢
    revert h; repeat' split
    all_goals first
      | (intro h; exact absurd h (hem _ _))
      | simp
  rw [if_neg h7] at h ⊢
theorem tok_step (h : t.st = 6) : t.step = t.token := by unfold IS.step; rw [if_neg (by omega), if_neg (by omega), if_neg (by omega), if_neg (by omega), if_neg (by omega), if_neg (by omega), if_pos h]
theorem dist_step (h : t.st = 7) : t.step = t.dist := by unfold IS.step; rw [if_neg (by omega), if_neg (by omega), if_neg (by omega), if_neg (by omega), if_neg (by omega), if_neg (by omega), if_neg (by omega), if_pos h]
theorem heads_step (h : t.st = 4) : t.step = t.heads := by unfold IS.step; rw [if_neg (by omega), if_neg (by omega), if_neg (by omega), if_neg (by omega), if_pos h]
theorem heads_lack (h : t.st = 4) (hl : t.lens.length < t.c2) (hx : t.x.length < 3) : t.step.2 = 5 := by rw [heads_step h, IS.heads, if_pos hl, if_pos hx]
theorem heads_push (h : t.st = 4) (hl : t.lens.length < t.c2) (hx : ¬ t.x.length < 3) : t.step = ({ t with x := t.x.drop 3, lens := t.lens ++ [(num t.x 3 : Int)] }, 0) := by rw [heads_step h, IS.heads, if_pos hl, if_neg hx]
theorem heads_bad (h : t.st = 4) (hl : ¬ t.lens.length < t.c2) (hx : checkOf (hAll t.lens) 7 ≠ 0 ∨ noneB t.lens = true) : t.step = (t, 3) := by rw [heads_step h, IS.heads, if_neg hl, if_pos hx]
theorem heads_ok (h : t.st = 4) (hl : ¬ t.lens.length < t.c2) (hx : ¬ (checkOf (hAll t.lens) 7 ≠ 0 ∨ noneB t.lens = true)) : t.step = ({ t with hd := hAll t.lens, lens := [], st := 5 }, 0) := by rw [heads_step h, IS.heads, if_neg hl, if_neg hx]
def hF (l : List Int) (i p : Nat) : Value := .int .i64 (if hOrd.idxOf p < i then ix l (hOrd.idxOf p) else 0)
theorem hF_zero (l : List Int) (p : Nat) : Value.int .i64 0 = hF l 0 p := by unfold hF; rw [if_neg (Nat.not_lt_zero _)]
theorem hOrd_at : ∀ i, i < 19 → ∀ p, p < 19 → (hOrd.idxOf p = i ↔ p = hOrd.getD i 0) := by decide +kernel
theorem hOrd_lt : ∀ i, i < 19 → hOrd.getD i 0 < 19 := by decide +kernel
theorem hF_next {l : List Int} {i : Nat} (hi : i < 19) {p : Nat} (hp : p < 19) : upd (hF l i) (hOrd.getD i 0) (.int .i64 (ix l i)) p = hF l (i + 1) p := by
  have h := hOrd_at i hi p hp
  by_cases e : p = hOrd.getD i 0
  · rw [← e, upd_same]
    unfold hF
    rw [h.2 e, if_pos (by omega)]
  · rw [upd_other _ _ e]
    have : hOrd.idxOf p ≠ i := fun e2 => e (h.1 e2)
    unfold hF
    by_cases e3 : hOrd.idxOf p < i
    · rw [if_pos e3, if_pos (by omega)]
    · rw [if_neg e3, if_neg (by omega)]
theorem hF_end {l : List Int} {p : Nat} (hp : p < 19) : hF l l.length p = .int .i64 (ix (hAll l) p) := by
  unfold hF
  have e : ix (hAll l) p = ix l (hOrd.idxOf p) := by simp [ix, hAll, hp]
  rw [e]
  split
  · rfl
  · congr 1
    unfold ix
    rw [List.getD_eq_getElem?_getD, List.getElem?_eq_none (by omega)]; rfl
theorem len_step (h : t.st = 5) (hl : t.lens.length < t.c0 + t.c1) : t.step = t.length := by unfold IS.step; rw [if_neg (by omega), if_neg (by omega), if_neg (by omega), if_neg (by omega), if_neg (by omega), if_pos h]; unfold IS.lengths; rw [if_pos hl]
theorem add_pos' (a : Addr) {k : Nat} (h : k ≠ 0) : a.add k = ⟨a.block, a.off + k, none⟩ := by unfold Addr.add; rw [if_neg h]
theorem lens_end (h : t.st = 5) (hl : ¬ t.lens.length < t.c0 + t.c1) : t.step = if checkOf (t.lens.take t.c0) 15 ≠ 0 ∨ checkOf (t.lens.drop t.c0) 15 ≠ 0 ∨ ix t.lens 256 = 0 then (t, 3) else ({ t with lt := t.lens.take t.c0, ds := t.lens.drop t.c0, st := 6 }, 0) := by
  unfold IS.step; rw [if_neg (by omega), if_neg (by omega), if_neg (by omega), if_neg (by omega), if_neg (by omega), if_pos h]; unfold IS.lengths; rw [if_neg hl]
def endE (F : IS × Int) : Int := if F.2 = 8 then 0 else F.2
end
end Go.Proofs.Ytlgkiookobedcaa
