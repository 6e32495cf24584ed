/-
  Several texts in one (written by pack2.py): BkU, BkK.
-/
import Derived.Test.YtckhkkjdibcclaaPk26
/-
  Plain law: bits that are read as blocks; one more block.
-/
namespace Go.Proofs.Ytckhkkjdibcclaa
open Go.RowKit
set_option linter.unusedVariables false
/-- the machine goes over L, and stands ahead of a block -/
def Reads (M : Nat) (L all kinds stops : List Int) (toks : List Tok) : Prop :=
  Bit L ∧ all.length ≤ M ∧ ∀ y, Bit y → (L.length + y.length) % 8 = 0 → ∃ t, IS.Steps (start (L ++ y) M) t ∧ t.st = 0 ∧ t.x = y ∧ t.all = all ∧ t.rem = M - all.length ∧ t.kinds = kinds ∧ t.stops = stops ∧ t.toks = toks
/-- the machine goes over L, and stands behind the last block -/
def Ends (M : Nat) (L all kinds stops : List Int) (toks : List Tok) : Prop :=
  Bit L ∧ all.length ≤ M ∧ ∀ y, Bit y → (L.length + y.length) % 8 = 0 → ∃ t, IS.Steps (start (L ++ y) M) t ∧ t.st = 8 ∧ t.x = algn y ∧ t.all = all ∧ t.kinds = kinds ∧ t.stops = stops ∧ t.toks = toks
theorem Reads.nil (M : Nat) : Reads M [] [] [] [] [] := ⟨Bit.nil_, Nat.zero_le _, fun y hy _ => ⟨start y M, .refl _, rfl, rfl, rfl, rfl, rfl, rfl, rfl⟩⟩
/-- what a block adds -/
def blkAll (kind : Int) (l : List Tok) (raw all : List Int) : List Int := if kind = 0 then all ++ raw else (expand all l).2
theorem ofN_one (b : Bool) : ofN (if b = true then 1 else 0) 1 = [if b = true then 1 else 0] := by cases b <;> rfl
theorem ofN_two : ofN 0 2 = [0, 0] ∧ ofN 1 2 = [1, 0] ∧ ofN 2 2 = [0, 1] := by decide
theorem num3 {b k1 k2 : Int} (hb : b = 0 ∨ b = 1) (h1 : k1 = 0 ∨ k1 = 1) (h2 : k2 = 0 ∨ k2 = 1) (z : List Int) : num ([b, k1, k2] ++ z) 3 = (b + 2 * k1 + 4 * k2).toNat := by
  rw [num_is (x := [b, k1, k2]) (n := 3) rfl]
  rcases hb with rfl | rfl <;> rcases h1 with rfl | rfl <;> rcases h2 with rfl | rfl <;> rfl
theorem ofN_65535 (n : Nat) (h : n ≤ 65535) : ofN (4294967295 - (n : Int)) 16 = ofN (65535 - (n : Int)) 16 := by
  rw [← ofN_mod (4294967295 - (n : Int)), ← ofN_mod (65535 - (n : Int))]
  have e : (2 : Int) ^ 16 = 65536 := by decide
  rw [e]
  congr 1
  omega
theorem Bit.blk (lit dist : List Int) (l : List Tok) : Bit (blkB lit dist l) := by
  unfold blkB toksB
  refine Bit.app (fun x hx => ?_) (Bit.sym _ _)
  obtain ⟨t, _, ht⟩ := List.mem_flatMap.1 hx
  unfold tokB at ht
  split at ht
  · exact Bit.sym _ _ x ht
  · exact (((Bit.sym _ _).app (Bit.ofN _ _)).app (Bit.sym _ _)).app (Bit.ofN _ _) x ht
theorem Bit.plan (l : List Tok) : Bit (planB l) := by
  unfold planB ordB rnsB
  refine ((((Bit.ofN _ _).app (Bit.ofN _ _)).app (Bit.ofN _ _)).app fun x hx => ?_).app fun x hx => ?_
  · obtain ⟨t, _, ht⟩ := List.mem_flatMap.1 hx
    exact Bit.ofN _ _ x ht
  · obtain ⟨t, _, ht⟩ := List.mem_flatMap.1 hx
    exact (Bit.sym _ _).app (Bit.ofN _ _) x ht
theorem Bit.hd3 {L : List Int} (h : Bit L) (kind : Int) (last : Bool) : Bit (hd3 kind last L) := (h.app (Bit.ofN _ _)).app (Bit.ofN _ _)
theorem Bit.out {L : List Int} (h : Bit L) (kind : Int) (l : List Tok) (raw : List Int) (last : Bool) : Bit (outB kind l raw last L) := by
  unfold outB
  split
  · unfold stoB
    exact (((Bit.evn (h.hd3 _ _)).app (Bit.ofN _ _)).app (Bit.ofN _ _)).app (Bit.bts _)
  · split
    · exact (h.hd3 _ _).app (Bit.blk _ _ _)
    · exact ((h.hd3 _ _).app (Bit.plan _)).app (Bit.blk _ _ _)
section
variable {M : Nat} {L all kinds stops : List Int} {toks : List Tok} {kind : Int} {l : List Tok} {raw : List Int} {last : Bool}
theorem plan_steps {t : IS} {y : List Int} (hst : t.st = 3) (hx : t.x = planB l ++ y) (hl : l.length < 1048576) :
    ∃ t', IS.Steps t t' ∧ HdS t t' ∧ t'.st = 6 ∧ t'.lt = plLit l ∧ t'.ds = plDist l ∧ t'.x = y := by
  have hb1 := litN_bd l
  have hb2 := dstN_bd l
  have hb3 := plN_bd l
  have hx1 : t.x = ofN (((litN l - 257 : Nat) : Int)) 5 ++ (ofN (((dstN l - 1 : Nat) : Int)) 5 ++ (ofN (((plN l - 4 : Nat) : Int)) 4 ++ (ordB (plHead l) (plN l) ++ (rnsB (plHead l) (plRuns l) ++ y)))) := by
    rw [hx]; unfold planB; simp only [List.append_assoc]
  have e1 := sizes_step hst hx1 (by omega) (by omega) (by omega)
  have s1 := IS.Steps.one (s := t) (by rw [e1])
  rw [e1] at s1
  obtain ⟨t1, ht1⟩ : ∃ t1 : IS, t1 = { t with x := ordB (plHead l) (plN l) ++ (rnsB (plHead l) (plRuns l) ++ y), c0 := litN l - 257 + 257, c1 := dstN l - 1 + 1, c2 := plN l - 4 + 4, lens := [], st := 4 } := ⟨_, rfl⟩
  rw [← ht1] at s1
  have a1 : HdS t t1 ∧ t1.st = 4 ∧ t1.c2 = plN l ∧ t1.lens = [] ∧ t1.x = ordF (plHead l) 0 (plN l) ++ (rnsB (plHead l) (plRuns l) ++ y) ∧ t1.c0 = litN l ∧ t1.c1 = dstN l := by
    rw [ht1, ordF_zero]
    exact ⟨⟨rfl, rfl, rfl, rfl, rfl, rfl⟩, rfl, by dsimp only; omega, rfl, rfl, by dsimp only; omega, by dsimp only; omega⟩
  clear ht1 e1
  obtain ⟨h1, b1, b2, b3, b4, b5, b6⟩ := a1
  obtain ⟨t2, s2, h2, c1, c2, c3, c4, c5, c6⟩ := heads_steps (hd := plHead l) (n := plN l) (by omega) (head_in l) (plN l) 0 t1 (by omega) (Nat.zero_le _) b1 b2 b3 b4
  have hord := hAll_ord (n := plN l) (hd := plHead l) (by omega) (plHead_len l) (ord_zero l)
  have e3 := heads_end (hd := plHead l) c1 (by rw [c3, ordL_len _ (by omega), c2]) (by rw [c3]; exact hord) (plHead_check l) (by rw [c3]; exact ord_some hl)
  have s3 := IS.Steps.one (s := t2) (by rw [e3])
  rw [e3] at s3
  obtain ⟨t3, ht3⟩ : ∃ t3 : IS, t3 = { t2 with hd := plHead l, lens := [], st := 5 } := ⟨_, rfl⟩
  rw [← ht3] at s3
  have a3 : HdS t2 t3 ∧ t3.st = 5 ∧ t3.hd = plHead l ∧ t3.lens = [] ∧ t3.x = rnsB (plHead l) (plRuns l) ++ y ∧ t3.c0 = litN l ∧ t3.c1 = dstN l := by
    rw [ht3]
    exact ⟨⟨rfl, rfl, rfl, rfl, rfl, rfl⟩, rfl, rfl, rfl, c4, c5.trans b5, c6.trans b6⟩
  clear ht3 e3
  obtain ⟨h3, d1, d2, d3, d4, d5, d6⟩ := a3
  obtain ⟨r1, r2⟩ := runs_dec _ (plLit l ++ plDist l) rfl (both_in hl) []
  have r1' : (plRuns l).foldl decR [] = plLit l ++ plDist l := by rw [List.nil_append] at r1; exact r1
  obtain ⟨t4, s4, h4, f1, f2, f3, f4, f5⟩ := runs_steps (plHead_check l) (plRuns l) t3 [] d1 d2 d3 d4 r2 (head_pos hl) (by rw [r1', List.length_append, plLit_len, plDist_len, d5, d6])
  rw [r1'] at f2
  have e5 := plan_end (l := plLit l) (d := plDist l) f1 f2 (by rw [f4, d5, plLit_len]) (by rw [f5, d6, plDist_len]) (plLit_check hl) (plDist_check hl) (lit_end hl)
  have s5 := IS.Steps.one (s := t4) (by rw [e5])
  rw [e5] at s5
  exact ⟨_, (((s1.trans s2).trans s3).trans s4).trans s5, ((h1.trans h2).trans (h3.trans h4)).trans ⟨rfl, rfl, rfl, rfl, rfl, rfl⟩, rfl, rfl, rfl, f3⟩
/-- one more block: ahead of its end -/
theorem Reads.blk (h : Reads M L all kinds stops toks) (hm : bkMay kind l raw.length = true) (hby : ∀ x ∈ raw, 0 ≤ x ∧ x < 256) (hlit : ∀ t ∈ l, 0 ≤ t.lit ∧ t.lit < 256) (he : kind ≠ 0 → (expand all l).1 = 0) (hM : (blkAll kind l raw all).length ≤ M) (y : List Int) (hy : Bit y) (hev : ((outB kind l raw last L).length + y.length) % 8 = 0) :
    ∃ t : IS, IS.Steps (start (outB kind l raw last L ++ y) M) t.over ∧ t.x = y ∧ t.last = last ∧ t.all = blkAll kind l raw all ∧ t.rem = M - (blkAll kind l raw all).length ∧ t.kinds = kinds ++ [kind] ∧ t.stops = stops ∧ t.toks = toks ++ (if kind = 0 then [] else l) := by
  obtain ⟨hbL, hlM, hR⟩ := h
  have hk : kind = 0 ∨ kind = 1 ∨ kind = 2 := by
    unfold bkMay at hm
    by_cases h0 : kind = 0
    · exact .inl h0
    · rw [if_neg h0] at hm
      by_cases h : ¬ (kind = 1 ∨ kind = 2) ∨ 1048576 ≤ l.length
      · rw [if_pos h] at hm; exact absurd hm (by decide)
      · omega
  obtain ⟨mk, hmk⟩ : ∃ mk : Int, (if last = true then (1 : Int) else 0) = mk := ⟨_, rfl⟩
  have hmk2 : mk = 0 ∨ mk = 1 := by cases last <;> simp at hmk <;> omega
  have hml : decide (mk = 1) = last := by cases last <;> simp at hmk <;> subst hmk <;> rfl
  have hmk1 : ofN mk 1 = [mk] := by rcases hmk2 with rfl | rfl <;> rfl
  have e0 : hd3 kind last L = L ++ ([mk] ++ ofN kind 2) := by unfold hd3; rw [hmk, hmk1, List.append_assoc]
  rcases hk with rfl | rfl | rfl
  · have hlen : raw.length ≤ 65535 := by
      unfold bkMay at hm
      rw [if_pos rfl] at hm
      exact of_decide_eq_true hm
    have hout : outB 0 l raw last L = evn (L ++ [mk, 0, 0]) ++ ofN raw.length 16 ++ ofN (65535 - (raw.length : Int)) 16 ++ bts raw := by
      unfold outB
      rw [if_pos rfl]
      unfold stoB
      rw [e0, ofN_two.1, ofN_65535 _ hlen]
      rfl
    obtain ⟨pad, hpad, hp8⟩ : ∃ pad : List Int, evn (L ++ [mk, 0, 0]) = L ++ [mk, 0, 0] ++ pad ∧ pad.length < 8 := ⟨_, rfl, by rw [List.length_replicate]; omega⟩
    have hpb : Bit pad := fun x hx => (Bit.evn (hbL.app (b := [mk, 0, 0]) (by intro x hx; rcases List.mem_cons.1 hx with rfl | hx; exact hmk2; simp at hx; omega))) x (by rw [hpad]; exact List.mem_append_right _ hx)
    have hsplit : outB 0 l raw last L ++ y = L ++ ([mk, 0, 0] ++ (pad ++ (ofN raw.length 16 ++ ofN (65535 - raw.length) 16 ++ (bts raw ++ y)))) := by
      rw [hout, hpad]; simp only [List.append_assoc]
    have hyb : Bit ([mk, 0, 0] ++ (pad ++ (ofN raw.length 16 ++ ofN (65535 - (raw.length : Int)) 16 ++ (bts raw ++ y)))) :=
      Bit.app (by intro x hx; rcases List.mem_cons.1 hx with rfl | hx; exact hmk2; simp at hx; omega) (hpb.app (((Bit.ofN _ _).app (Bit.ofN _ _)).app ((Bit.bts _).app hy)))
    obtain ⟨t, s1, b1, b2, b3, b4, b5, b6, b7⟩ := hR _ hyb (by
      have : (outB 0 l raw last L ++ y).length % 8 = 0 := by rw [List.length_append]; exact hev
      rw [hsplit, List.length_append] at this; exact this)
    have hye : y.length % 8 = 0 := by
      rw [hout, List.length_append, List.length_append, List.length_append, ofN_length, ofN_length, bts_length] at hev
      have := evn_even (L ++ [mk, 0, 0])
      omega
    have hbl : blkAll 0 l raw all = all ++ raw := if_pos rfl
    rw [hbl] at hM ⊢
    rw [List.length_append] at hM
    have h2 := stored_block (s := t) (B := raw) (pad := pad) (y := y) (h := mk) b1 hmk2 b2 hp8 hye hy hby hlen (by rw [b4]; omega)
    rw [← hsplit] at s1
    refine ⟨_, s1.trans h2, rfl, hml, ?_, ?_, ?_, b6, ?_⟩
    · show t.all ++ raw = _; rw [b3]
    · show t.rem - raw.length = _; rw [b4, List.length_append]; omega
    · show t.kinds ++ [0] = _; rw [b5]
    · show t.toks = _; rw [b7, if_pos rfl, List.append_nil]
  · obtain ⟨m1, m2⟩ := may_one hm
    have hsplit : outB 1 l raw last L ++ y = L ++ ([mk, 1, 0] ++ (blkB fixL fixD l ++ y)) := by
      unfold outB
      rw [if_neg (by decide), if_pos rfl, e0, ofN_two.2.1]
      simp only [List.append_assoc, List.cons_append, List.nil_append]
    have hyb : Bit ([mk, 1, 0] ++ (blkB fixL fixD l ++ y)) := Bit.app (by intro x hx; rcases List.mem_cons.1 hx with rfl | hx; exact hmk2; simp at hx; omega) ((Bit.blk _ _ _).app hy)
    obtain ⟨t, s1, b1, b2, b3, b4, b5, b6, b7⟩ := hR _ hyb (by
      have : (outB 1 l raw last L ++ y).length % 8 = 0 := by rw [List.length_append]; exact hev
      rw [hsplit, List.length_append] at this; exact this)
    rw [← hsplit] at s1
    have hbl : blkAll 1 l raw all = (expand all l).2 := if_neg (by decide)
    rw [hbl] at hM ⊢
    have hn := num3 hmk2 (.inr rfl : (1 : Int) = 0 ∨ (1 : Int) = 1) (.inl rfl : (0 : Int) = 0 ∨ (0 : Int) = 1) (blkB fixL fixD l ++ y)
    have e1 : t.step = ({ t with last := last, kinds := t.kinds ++ [1], x := blkB fixL fixD l ++ y, lt := fixL, ds := fixD, st := 6 }, 0) := by
      unfold IS.step
      rw [if_pos b1]
      unfold IS.block
      rw [b2, hn, if_neg (by rw [List.length_append]; simp), if_neg (by rcases hmk2 with rfl | rfl <;> decide), if_pos (by rcases hmk2 with rfl | rfl <;> decide), drop_len (by rfl)]
      rw [← hml]
      rcases hmk2 with rfl | rfl <;> rfl
    have s2 := s1.tail (by rw [e1])
    rw [e1] at s2
    have hT : TkSt ({ t with last := last, kinds := t.kinds ++ [1], x := blkB fixL fixD l ++ y, lt := fixL, ds := fixD, st := 6 } : IS) fixL fixD last (blkB fixL fixD l ++ y) all (M - all.length) (kinds ++ [1]) stops toks := ⟨rfl, rfl, rfl, rfl, rfl, b3, b4, by dsimp only; rw [b5], b6, b7⟩
    have hex : expand all l = (0, (expand all l).2) := by rw [← he (by decide)]
    obtain ⟨t2, s3, h3⟩ := blk_steps hT fix_ok.1 fix_ok.2 (by rw [fixL_len]; omega) (fixL_pos 256 (by omega)) (fun k hk => ⟨m2 k hk, hlit k hk, fix_sym (m2 k hk) (hlit k hk)⟩) hex (by omega)
    refine ⟨_, s2.trans s3, rfl, h3.last, h3.all, ?_, h3.kinds, h3.stops, ?_⟩
    · show t2.rem = _
      rw [h3.rem]
      obtain ⟨z, hz⟩ := expand_ok (out := all) (l := l) (by rw [hex])
      have := congrArg List.length hz
      rw [List.length_append] at this
      omega
    · show t2.toks = _
      rw [h3.toks, if_neg (by decide)]
  · obtain ⟨m1, m2⟩ := may_two hm
    have hsplit : outB 2 l raw last L ++ y = L ++ ([mk, 0, 1] ++ (planB l ++ (blkB (plLit l) (plDist l) l ++ y))) := by
      unfold outB
      rw [if_neg (by decide), if_neg (by decide), e0, ofN_two.2.2]
      simp only [List.append_assoc, List.cons_append, List.nil_append]
    have hyb : Bit ([mk, 0, 1] ++ (planB l ++ (blkB (plLit l) (plDist l) l ++ y))) := Bit.app (by intro x hx; rcases List.mem_cons.1 hx with rfl | hx; exact hmk2; simp at hx; omega) ((Bit.plan _).app ((Bit.blk _ _ _).app hy))
    obtain ⟨t, s1, b1, b2, b3, b4, b5, b6, b7⟩ := hR _ hyb (by
      have : (outB 2 l raw last L ++ y).length % 8 = 0 := by rw [List.length_append]; exact hev
      rw [hsplit, List.length_append] at this; exact this)
    rw [← hsplit] at s1
    have hbl : blkAll 2 l raw all = (expand all l).2 := if_neg (by decide)
    rw [hbl] at hM ⊢
    have hn := num3 hmk2 (.inl rfl : (0 : Int) = 0 ∨ (0 : Int) = 1) (.inr rfl : (1 : Int) = 0 ∨ (1 : Int) = 1) (planB l ++ (blkB (plLit l) (plDist l) l ++ y))
    have e1 : t.step = ({ t with last := last, kinds := t.kinds ++ [2], x := planB l ++ (blkB (plLit l) (plDist l) l ++ y), st := 3 }, 0) := by
      unfold IS.step
      rw [if_pos b1]
      unfold IS.block
      rw [b2, hn, if_neg (by rw [List.length_append]; simp), if_neg (by rcases hmk2 with rfl | rfl <;> decide), if_neg (by rcases hmk2 with rfl | rfl <;> decide), if_pos (by rcases hmk2 with rfl | rfl <;> decide), drop_len (by rfl)]
      rw [← hml]
      rcases hmk2 with rfl | rfl <;> rfl
    have s2 := s1.tail (by rw [e1])
    rw [e1] at s2
    obtain ⟨t1, s3, h3, c1, c2, c3, c4⟩ := plan_steps (t := { t with last := last, kinds := t.kinds ++ [2], x := planB l ++ (blkB (plLit l) (plDist l) l ++ y), st := 3 }) rfl rfl m1
    have hT : TkSt t1 (plLit l) (plDist l) last (blkB (plLit l) (plDist l) l ++ y) all (M - all.length) (kinds ++ [2]) stops toks := ⟨c1, c2, c3, h3.last, c4, h3.all.trans b3, h3.rem.trans b4, h3.kinds.trans (by dsimp only; rw [b5]), h3.stops.trans b6, h3.toks.trans b7⟩
    have hex : expand all l = (0, (expand all l).2) := by rw [← he (by decide)]
    obtain ⟨t2, s4, h4⟩ := blk_steps hT (plLit_check m1) (plDist_check m1) (by rw [plLit_len]; have := litN_bd l; omega) (lit_end m1) (fun k hk => ⟨m2 k hk, hlit k hk, dyn_sym m1 hk (m2 k hk) (hlit k hk)⟩) hex (by omega)
    refine ⟨_, (s2.trans s3).trans s4, rfl, h4.last, h4.all, ?_, h4.kinds, h4.stops, ?_⟩
    · show t2.rem = _
      rw [h4.rem]
      obtain ⟨z, hz⟩ := expand_ok (out := all) (l := l) (by rw [hex])
      have := congrArg List.length hz
      rw [List.length_append] at this
      omega
    · show t2.toks = _
      rw [h4.toks, if_neg (by decide)]
theorem Reads.next (h : Reads M L all kinds stops toks) (hm : bkMay kind l raw.length = true) (hby : ∀ x ∈ raw, 0 ≤ x ∧ x < 256) (hlit : ∀ t ∈ l, 0 ≤ t.lit ∧ t.lit < 256) (he : kind ≠ 0 → (expand all l).1 = 0) (hM : (blkAll kind l raw all).length ≤ M) :
    Reads M (outB kind l raw false L) (blkAll kind l raw all) (kinds ++ [kind]) (stops ++ [((blkAll kind l raw all).length : Int)]) (toks ++ (if kind = 0 then [] else l)) := by
  refine ⟨h.1.out _ _ _ _, hM, fun y hy hev => ?_⟩
  obtain ⟨t, s, b1, b2, b3, b4, b5, b6, b7⟩ := h.blk hm hby hlit he hM y hy hev
  refine ⟨_, s, ?_⟩
  unfold IS.over
  rw [b2, if_neg (by decide)]
  exact ⟨rfl, b1, b3, b4, b5, by dsimp only; rw [b6, b3], b7⟩
theorem Reads.fin (h : Reads M L all kinds stops toks) (hm : bkMay kind l raw.length = true) (hby : ∀ x ∈ raw, 0 ≤ x ∧ x < 256) (hlit : ∀ t ∈ l, 0 ≤ t.lit ∧ t.lit < 256) (he : kind ≠ 0 → (expand all l).1 = 0) (hM : (blkAll kind l raw all).length ≤ M) :
    Ends M (outB kind l raw true L) (blkAll kind l raw all) (kinds ++ [kind]) (stops ++ [((blkAll kind l raw all).length : Int)]) (toks ++ (if kind = 0 then [] else l)) := by
  refine ⟨h.1.out _ _ _ _, hM, fun y hy hev => ?_⟩
  obtain ⟨t, s, b1, b2, b3, b4, b5, b6, b7⟩ := h.blk hm hby hlit he hM y hy hev
  refine ⟨_, s, ?_⟩
  unfold IS.over
  rw [b2, if_pos rfl]
  exact ⟨rfl, by dsimp only; rw [b1], b3, b5, by dsimp only; rw [b6, b3], b7⟩
/-- the whole stream, and nothing behind it -/
theorem Ends.fin (h : Ends M L all kinds stops toks) : ∃ t, (start (evn L) M).fin = (t, 8) ∧ t.x = [] ∧ t.all = all ∧ t.kinds = kinds ∧ t.stops = stops ∧ t.toks = toks := by
  obtain ⟨hb, hM, hE⟩ := h
  obtain ⟨t, s, b1, b2, b3, b4, b5, b6⟩ := hE (List.replicate ((8 - L.length % 8) % 8) 0) (Bit.zeros _) (by rw [List.length_replicate]; omega)
  have e : L ++ List.replicate ((8 - L.length % 8) % 8) 0 = evn L := rfl
  rw [e] at s
  refine ⟨t, ?_, ?_, b3, b4, b5, b6⟩
  · rw [← s.fin_eq]
    have e8 : t.step = (t, 8) := by unfold IS.step; rw [b1]; rfl
    rw [IS.fin_stop (by rw [e8]; simp), e8]
  · rw [b2]
    unfold algn
    rw [List.length_replicate, List.drop_of_length_le (by rw [List.length_replicate]; omega)]
end
end Go.Proofs.Ytckhkkjdibcclaa

/-
  Plain law: a block is as long as its cost.
-/
namespace Go.Proofs.Ytckhkkjdibcclaa
open Go.RowKit
set_option linter.unusedVariables false
def sumL (l f : List Int) : Nat → Int
  | 0 => 0
  | k + 1 => sumL l f k + ix l k * ix f k
theorem cost_sum {l f : List Int} (hl : ∀ i, 0 ≤ ix l i ∧ ix l i ≤ 15) (hf : ∀ i, 0 ≤ ix f i ∧ ix f i ≤ 1048576) : ∀ k, costTo l f k = sumL l f k
  | 0 => rfl
  | k + 1 => by
    rw [costTo, sumL, cost_sum hl hf k]
    congr 1
    have h1 := hl k
    have h2 := hf k
    by_cases h : 0 < ix l k ∧ 0 < ix f k
    · exact costOf_yes h.1 h.2 h2.2 (by omega)
    · rw [costOf_no (by omega)]
      have : ix l k = 0 ∨ ix f k = 0 := by omega
      rcases this with h | h <;> rw [h] <;> simp
theorem sum_bump (l f : List Int) (s : Nat) : ∀ k, sumL l (bump f s) k = sumL l f k + if s < k ∧ s < f.length then ix l s else 0
  | 0 => by simp [sumL]
  | k + 1 => by
    rw [sumL, sumL, sum_bump l f s k, ix_bump]
    by_cases h1 : s = k
    · subst h1
      rw [if_neg (show ¬ (s < s ∧ s < f.length) from fun h => Nat.lt_irrefl _ h.1)]
      by_cases h2 : s < f.length
      · rw [if_pos (show s = s ∧ s < f.length from ⟨rfl, h2⟩), if_pos (show s < s + 1 ∧ s < f.length from ⟨Nat.lt_succ_self _, h2⟩), Int.mul_add]; omega
      · rw [if_neg (show ¬ (s = s ∧ s < f.length) from fun h => h2 h.2), if_neg (show ¬ (s < s + 1 ∧ s < f.length) from fun h => h2 h.2)]; omega
    · rw [if_neg (show ¬ (s = k ∧ k < f.length) from fun h => h1 h.1)]
      by_cases h2 : s < k ∧ s < f.length
      · rw [if_pos h2, if_pos (show s < k + 1 ∧ s < f.length from ⟨by omega, h2.2⟩)]; omega
      · rw [if_neg h2, if_neg (show ¬ (s < k + 1 ∧ s < f.length) from fun h => h2 ⟨by omega, h.2⟩)]; omega
theorem sum_zeros (l : List Int) (n : Nat) : ∀ k, sumL l (List.replicate n 0) k = 0
  | 0 => rfl
  | k + 1 => by
    rw [sumL, sum_zeros l n k]
    have : ix (List.replicate n (0 : Int)) k = 0 := by
      unfold ix
      rw [List.getD_eq_getElem?_getD, List.getElem?_replicate]
      split <;> rfl
    rw [this]; simp
theorem fq0_bump : fq0 = (bump (List.replicate 286 0) 256, List.replicate 30 0) := by
  unfold fq0 fq0.zrI bump
  rw [ix_repB _ (by omega)]
  rfl
theorem toks_cost {lit dist : List Int} (hl : ∀ i, 0 ≤ ix lit i) (hd : ∀ i, 0 ≤ ix dist i) (l : List Tok) : (∀ t ∈ l, soundT t ∧ (0 ≤ t.lit ∧ t.lit < 256)) → sumL lit (fqT l).1 286 + sumL dist (fqT l).2 30 + ((exs l : Nat) : Int) = ((blkB lit dist l).length : Int) := by
  refine fold_snoc (β := Nat) (motive := fun l => (∀ t ∈ l, soundT t ∧ (0 ≤ t.lit ∧ t.lit < 256)) → sumL lit (fqT l).1 286 + sumL dist (fqT l).2 30 + ((exs l : Nat) : Int) = ((blkB lit dist l).length : Int)) ?_ ?_ l
  · intro _
    rw [fqT_nil, fq0_bump]
    simp only
    rw [sum_bump, sum_zeros, sum_zeros, if_pos ⟨by omega, by rw [List.length_replicate]; omega⟩]
    unfold blkB toksB exs
    rw [List.length_append, symBits_length]
    have := hl 256
    simp; omega
  · intro l t ih h
    have h1 := ih fun u hu => h u (List.mem_append_left _ hu)
    obtain ⟨s1, s2⟩ := h t (List.mem_append_right _ (List.mem_singleton.2 rfl))
    have hln := fq_len l
    have he : exs (l ++ [t]) = exs l + exT t := by simp [exs]
    have hb : (blkB lit dist (l ++ [t])).length = (blkB lit dist l).length + (tokB lit dist t).length := by
      unfold blkB
      rw [toksB_app, toksB_one]
      simp only [List.length_append]; omega
    rw [fqT_snoc, he, hb]
    unfold fqS tokB exT
    by_cases h0 : t.len = 0
    · rw [if_pos h0, if_pos h0]
      simp only
      rw [sum_bump, if_pos ⟨by omega, by rw [hln.1]; omega⟩, symBits_length]
      have hdz : t.dist = 0 := by unfold soundT at s1; rw [if_pos h0] at s1; exact s1
      rw [if_neg (by omega), if_neg (by omega)]
      have := hl t.lit.toNat
      omega
    · rw [if_neg h0, if_neg h0]
      obtain ⟨b1, b2, j28, q29⟩ := tok_bd s1 h0
      simp only
      rw [sum_bump, sum_bump, if_pos ⟨by omega, by rw [hln.1]; omega⟩, if_pos ⟨by omega, by rw [hln.2]; omega⟩, if_pos b1, if_pos b2]
      simp only [List.length_append, symBits_length, ofN_length]
      have := hl (257 + lenJ t.len)
      have := hd (distJ t.dist)
      omega
theorem ix_in {l : List Int} {m : Int} (hm : 0 ≤ m) (h : ∀ i, i < l.length → 0 ≤ ix l i ∧ ix l i ≤ m) (i : Nat) : 0 ≤ ix l i ∧ ix l i ≤ m := by
  by_cases hi : i < l.length
  · exact h i hi
  · have : ix l i = 0 := by unfold ix; rw [List.getD_eq_getElem?_getD, List.getElem?_eq_none (by omega)]; rfl
    rw [this]; exact ⟨Int.le_refl _, hm⟩
theorem sum_cut {l f : List Int} {n : Nat} (h : ∀ i, n ≤ i → ix l i = 0) : ∀ k, sumL l f (n + k) = sumL l f n
  | 0 => rfl
  | k + 1 => by rw [← Nat.add_assoc, sumL, sum_cut h k, h (n + k) (by omega)]; simp
theorem ix_none {l : List Int} {i : Nat} (h : l.length ≤ i) : ix l i = 0 := by unfold ix; rw [List.getD_eq_getElem?_getD, List.getElem?_eq_none h]; rfl
theorem plan_cost {l : List Tok} (hl : l.length < 1048576) : ((planB l).length : Int) = szP l := by
  have h2 := plRuns_ok hl
  have h3 := plN_bd l
  have h4 : ∀ rs : List Rn, (∀ r ∈ rs, RnOk r) → ((rnsB (plHead l) rs).length : Int) = rnsCost (plHead l) rs := fun rs => by
    induction rs with
    | nil => intro _; rfl
    | cons r rs ih =>
      intro h
      have h5 := ih fun x hx => h x (List.mem_cons_of_mem _ hx)
      have h6 := h r List.mem_cons_self
      have h7 := head_in l r.c.toNat (by have := h6.1; omega)
      have h8 := h6.2.2.1
      show ((rnB (plHead l) r ++ rnsB (plHead l) rs).length : Int) = rnCost (plHead l) r + rnsCost (plHead l) rs
      rw [List.length_append, ← h5]
      unfold rnB rnCost
      rw [List.length_append, symBits_length, ofN_length]
      omega
  unfold planB szP
  simp only [List.length_append, ofN_length]
  rw [ordB_len _ _ (by omega)]
  have := h4 _ h2
  omega
theorem fq_in {l : List Tok} (hl : l.length < 1048576) : (∀ i, 0 ≤ ix (fqT l).1 i ∧ ix (fqT l).1 i ≤ 1048576) ∧ ∀ i, 0 ≤ ix (fqT l).2 i ∧ ix (fqT l).2 i ≤ 1048576 :=
  ⟨fun i => by have := (fq_bd l i).1; omega, fun i => by have := (fq_bd l i).2; omega⟩
theorem fix_in : (∀ i, 0 ≤ ix fixL i ∧ ix fixL i ≤ 15) ∧ ∀ i, 0 ≤ ix fixD i ∧ ix fixD i ≤ 15 := by
  have h1 := (check_ok' fix_ok.1).2.1
  have h2 := (check_ok' fix_ok.2).2.1
  exact ⟨ix_in (by decide) h1, ix_in (by decide) h2⟩
/-- a block's length -/
theorem out_len {kind : Int} {l : List Tok} {raw L : List Int} {last : Bool} (hm : bkMay kind l raw.length = true) (hlit : ∀ t ∈ l, 0 ≤ t.lit ∧ t.lit < 256) (h8 : kind = 0 → L.length % 8 = 0) : ((outB kind l raw last L).length : Int) = (L.length : Int) + costB kind l raw.length := by
  have hk : kind = 0 ∨ kind = 1 ∨ kind = 2 := by
    unfold bkMay at hm
    by_cases h0 : kind = 0
    · exact .inl h0
    · rw [if_neg h0] at hm
      by_cases h : ¬ (kind = 1 ∨ kind = 2) ∨ 1048576 ≤ l.length
      · rw [if_pos h] at hm; exact absurd hm (by decide)
      · omega
  unfold outB costB
  rcases hk with rfl | rfl | rfl
  · rw [if_pos rfl, if_pos rfl]
    unfold stoB
    rw [List.length_append, List.length_append, List.length_append, ofN_length, ofN_length, bts_length, evn_length, hd3_len]
    have := h8 rfl
    omega
  · obtain ⟨m1, m2⟩ := may_one hm
    rw [if_neg (by decide), if_pos rfl, if_neg (by decide), if_pos rfl, List.length_append, hd3_len]
    have h := toks_cost (fun i => (fix_in.1 i).1) (fun i => (fix_in.2 i).1) l fun t ht => ⟨m2 t ht, hlit t ht⟩
    unfold costF
    rw [cost_sum fix_in.1 (fq_in m1).1, cost_sum fix_in.2 (fq_in m1).2]
    omega
  · obtain ⟨m1, m2⟩ := may_two hm
    rw [if_neg (by decide), if_neg (by decide), if_neg (by decide), if_neg (by decide), List.length_append, List.length_append, hd3_len]
    have hi1 := ix_in (by decide) (chk_in (plLit_check m1))
    have hi2 := ix_in (by decide) (chk_in (plDist_check m1))
    have h := toks_cost (fun i => (hi1 i).1) (fun i => (hi2 i).1) l fun t ht => ⟨m2 t ht, hlit t ht⟩
    have hc1 := sum_cut (l := plLit l) (f := (fqT l).1) (n := litN l) (fun i hi => ix_none (by rw [plLit_len]; exact hi)) (286 - litN l)
    have hc2 := sum_cut (l := plDist l) (f := (fqT l).2) (n := dstN l) (fun i hi => ix_none (by rw [plDist_len]; exact hi)) (30 - dstN l)
    have hb1 := litN_bd l
    have hb2 := dstN_bd l
    rw [show litN l + (286 - litN l) = 286 by omega] at hc1
    rw [show dstN l + (30 - dstN l) = 30 by omega] at hc2
    unfold costD
    rw [cost_sum hi1 (fq_in m1).1, cost_sum hi2 (fq_in m1).2, ← hc1, ← hc2]
    have := plan_cost m1
    omega
theorem cost_bd {kind : Int} {l : List Tok} {m : Nat} (hm : bkMay kind l m = true) (hlit : ∀ t ∈ l, 0 ≤ t.lit ∧ t.lit < 256) : 0 ≤ costB kind l m ∧ costB kind l m ≤ 60000000 := by
  by_cases h0 : kind = 0
  · subst h0
    unfold costB
    rw [if_pos rfl]
    unfold bkMay at hm
    rw [if_pos rfl] at hm
    have := of_decide_eq_true hm
    omega
  · have hl : l.length < 1048576 ∧ (∀ t ∈ l, soundT t) ∧ (kind = 1 ∨ kind = 2) := by
      unfold bkMay at hm
      rw [if_neg h0] at hm
      by_cases h : ¬ (kind = 1 ∨ kind = 2) ∨ 1048576 ≤ l.length
      · rw [if_pos h] at hm; exact absurd hm (by decide)
      · rw [if_neg h, List.all_eq_true] at hm
        exact ⟨by omega, fun t ht => of_decide_eq_true (hm t ht), by omega⟩
    have hm' : bkMay kind l ([] : List Int).length = true := by
      unfold bkMay at hm ⊢
      rw [if_neg h0] at hm ⊢
      exact hm
    have ho := out_len (L := []) (raw := []) (last := false) hm' hlit (fun h => absurd h h0)
    have hc : costB kind l ([] : List Int).length = costB kind l m := by unfold costB; rw [if_neg h0, if_neg h0]
    rw [hc] at ho
    have hb : ∀ lit dist : List Int, checkOf lit 15 = 0 → checkOf dist 15 = 0 → (blkB lit dist l).length ≤ 48 * l.length + 15 := fun lit dist h1 h2 => by
      have h3 := toks_le (check_ok' h1).2.1 (check_ok' h2).2.1 l hl.2.1
      have h4 := sym_le (check_ok' h1).2.1 256
      unfold blkB
      rw [List.length_append]; omega
    have hp := planB_le hl.1
    have h1 := hb fixL fixD fix_ok.1 fix_ok.2
    have h2 := hb (plLit l) (plDist l) (plLit_check hl.1) (plDist_check hl.1)
    have hlen : (outB kind l [] false []).length ≤ 60000000 := by
      unfold outB
      rw [if_neg h0]
      split
      · rw [List.length_append, hd3_len, List.length_nil]; omega
      · rw [List.length_append, List.length_append, hd3_len, List.length_nil]; omega
    simp only [List.length_nil] at ho
    omega
end Go.Proofs.Ytckhkkjdibcclaa
