/-
  Several texts in one (written by pack2.py): BkR, BkU, BkK, BkW, ExS, DefP.
-/
import Derived.Test.YtlgkiookobedcaaPk19
import Derived.Test.YtlgkiookobedcaaPk20
import Derived.Test.YtlgkiookobedcaaPk18
import Derived.Test.YtlgkiookobedcaaPk4
namespace Go.Proofs.Ytlgkiookobedcaa
open Go.RowKit
set_option linter.unusedVariables false
theorem fq_lit {l : List Tok} : ∀ t ∈ l, t.len = 0 → t.lit.toNat < 286 → 1 ≤ ix (fqT l).1 t.lit.toNat := by
  refine fold_snoc (β := Nat) (motive := fun l => ∀ t ∈ l, t.len = 0 → t.lit.toNat < 286 → 1 ≤ ix (fqT l).1 t.lit.toNat) ?_ ?_ l
  · intro t ht; simp at ht
  · intro l u ih t ht h0 h1
    rw [fqT_snoc]
    have hb := fq_bd l
    have hln := fq_len l
    rcases List.mem_append.1 ht with ht | ht
    · have := ih t ht h0 h1
      unfold fqS
      split
      · simp only; rw [ix_bump]; split <;> omega
      · simp only; rw [ix_bump]; split <;> omega
    · obtain rfl := List.mem_singleton.1 ht
      unfold fqS
      rw [if_pos h0]
      simp only
      rw [ix_bump, if_pos ⟨rfl, by rw [hln.1]; exact h1⟩]
      have := (hb t.lit.toNat).1; omega
theorem fq_text {l : List Tok} : ∀ t ∈ l, soundT t → t.len ≠ 0 → 1 ≤ ix (fqT l).1 (257 + lenJ t.len) ∧ 1 ≤ ix (fqT l).2 (distJ t.dist) := by
  refine fold_snoc (β := Nat) (motive := fun l => ∀ t ∈ l, soundT t → t.len ≠ 0 → 1 ≤ ix (fqT l).1 (257 + lenJ t.len) ∧ 1 ≤ ix (fqT l).2 (distJ t.dist)) ?_ ?_ l
  · intro t ht; simp at ht
  · intro l u ih t ht hs h0
    rw [fqT_snoc]
    have hb := fq_bd l
    have hln := fq_len l
    obtain ⟨_, _, j28, q29⟩ := tok_bd hs h0
    rcases List.mem_append.1 ht with ht | ht
    · have := ih t ht hs h0
      unfold fqS
      split
      · simp only; rw [ix_bump]; refine ⟨?_, this.2⟩; split <;> omega
      · simp only; rw [ix_bump, ix_bump]; constructor <;> (split <;> omega)
    · obtain rfl := List.mem_singleton.1 ht
      unfold fqS
      rw [if_neg h0]
      simp only
      rw [ix_bump, ix_bump, if_pos ⟨rfl, by rw [hln.1]; omega⟩, if_pos ⟨rfl, by rw [hln.2]; omega⟩]
      have := (hb (257 + lenJ t.len)).1
      have := (hb (distJ t.dist)).2
      omega
theorem litL_pos {l : List Tok} (hl : l.length < 1048576) {s : Nat} (h : 1 ≤ ix (fqT l).1 s) (hs : s < 286) : 1 ≤ ix (plLit l) s := by
  have h1 := ((lenF_res (fqT l).1 15).snd (fq_mv hl).1).each s (by rw [(fq_len l).1]; exact hs)
  have h2 : 0 < ix (litL l) s := h1.1.2 (by omega)
  have h3 : s < litN l := by
    rcases Nat.lt_or_ge s (litN l) with h3 | h3
    · exact h3
    · have := trimQ_zero (litL l) 257 286 s h3 hs; omega
  unfold plLit
  rw [ix_takeB h3]; omega
theorem dstL_pos {l : List Tok} (hl : l.length < 1048576) {s : Nat} (h : 1 ≤ ix (fqT l).2 s) (hs : s < 30) : 1 ≤ ix (plDist l) s := by
  have h1 := ((lenF_res (fqT l).2 15).snd (fq_mv hl).2).each s (by rw [(fq_len l).2]; exact hs)
  have h2 : 0 < ix (dstL l) s := h1.1.2 (by omega)
  have h3 : s < dstN l := by
    rcases Nat.lt_or_ge s (dstN l) with h3 | h3
    · exact h3
    · have := trimQ_zero (dstL l) 1 30 s h3 hs; omega
  unfold plDist
  by_cases hc : dstN l = 1 ∧ ix (dstL l) 0 = 0
  · have : s = 0 := by omega
    subst this; omega
  · rw [if_neg hc, ix_takeB h3]; omega
theorem dyn_sym {l : List Tok} (hl : l.length < 1048576) {t : Tok} (ht : t ∈ l) (hs : soundT t) (hlit : 0 ≤ t.lit ∧ t.lit < 256) : symOk (plLit l) (plDist l) t := by
  unfold symOk
  by_cases h0 : t.len = 0
  · rw [if_pos h0]; exact litL_pos hl (fq_lit t ht h0 (by omega)) (by omega)
  · rw [if_neg h0]
    obtain ⟨_, _, j28, q29⟩ := tok_bd hs h0
    obtain ⟨h1, h2⟩ := fq_text t ht hs h0
    exact ⟨litL_pos hl h1 (by omega), dstL_pos hl h2 (by omega)⟩
theorem lit_end {l : List Tok} (hl : l.length < 1048576) : 1 ≤ ix (plLit l) 256 := litL_pos hl (fq_end l) (by omega)
theorem fixL_pos : ∀ s, s < 288 → 1 ≤ ix fixL s := fun s hs => by rw [fixL_at s hs]; split <;> (try split) <;> (try split) <;> omega
theorem fix_sym {t : Tok} (hs : soundT t) (hlit : 0 ≤ t.lit ∧ t.lit < 256) : symOk fixL fixD t := by
  unfold symOk
  by_cases h0 : t.len = 0
  · rw [if_pos h0]; exact fixL_pos _ (by omega)
  · rw [if_neg h0]
    obtain ⟨_, _, j28, q29⟩ := tok_bd hs h0
    refine ⟨fixL_pos _ (by omega), ?_⟩
    have : ix fixD (distJ t.dist) = 5 := by unfold fixD; rw [ix_repB _ (by omega)]
    omega
theorem hdF_pos {rs : List Rn} : ∀ r ∈ rs, RnOk r → 1 ≤ ix (hdF rs) r.c.toNat := by
  refine fold_snoc (β := Nat) (motive := fun rs => ∀ r ∈ rs, RnOk r → 1 ≤ ix (hdF rs) r.c.toNat) ?_ ?_ rs
  · intro r hr; simp at hr
  · intro rs u ih r hr hok
    rw [hdF_snoc, ix_bump]
    have hb := hdF_bd rs r.c.toNat
    rcases List.mem_append.1 hr with hr | hr
    · have := ih r hr hok
      split <;> omega
    · obtain rfl := List.mem_singleton.1 hr
      rw [if_pos ⟨rfl, by rw [hdF_len]; have := hok.1; omega⟩]; omega
theorem head_pos {l : List Tok} (hl : l.length < 1048576) : ∀ r ∈ plRuns l, 1 ≤ ix (plHead l) r.c.toNat := fun r hr => by
  have hok := plRuns_ok hl r hr
  have h1 := ((lenF_res (hdF (plRuns l)) 7).snd (hd_mv l)).each r.c.toNat (by rw [hdF_len]; have := hok.1; omega)
  have h2 := hdF_pos r hr hok
  have h3 : 0 < ix (plHead l) r.c.toNat := h1.1.2 (by omega)
  omega
theorem runs_ne {l : List Tok} : plRuns l ≠ [] := fun e => by
  have h := (runs_dec _ (plLit l ++ plDist l) rfl)
  unfold plRuns at e
  have hl := plLit_len l
  have hb := litN_bd l
  cases hll : plLit l with
  | nil => rw [hll] at hl; simp at hl; omega
  | cons a r =>
    rw [hll, List.cons_append, runsP_cons] at e
    split at e
    · simp at e
    · rename_i h9
      have h1 : repP a (runN a (r ++ plDist l) + 1) ≠ [] := fun e2 => by
        rw [repP, dif_neg (by omega)] at e2
        split at e2
        · simp at e2
        · split at e2
          · simp at e2
          · split at e2
            · simp at e2
            · simp at e2
      exact h1 (List.append_eq_nil_iff.1 e).1
theorem ord_some {l : List Tok} (hl : l.length < 1048576) : noneB (ordL (plHead l) (plN l)) = false := by
  obtain ⟨r, hr⟩ : ∃ r, r ∈ plRuns l := by
    cases h : plRuns l with
    | nil => exact absurd h runs_ne
    | cons r _ => exact ⟨r, List.mem_cons_self⟩
  have h1 := head_pos hl r hr
  have hc := (plRuns_ok hl r hr).1
  have hc19 : r.c.toNat < 19 := by omega
  obtain ⟨o1, o2⟩ := hOrd_ix r.c.toNat hc19
  have hN := plN_bd l
  have hlt : hOrd.idxOf r.c.toNat < plN l := by
    rcases Nat.lt_or_ge (hOrd.idxOf r.c.toNat) (plN l) with h3 | h3
    · exact h3
    · have h4 := trimQ_zero (ordQ.map fun k => ix (plHead l) k.toNat) 4 19 _ h3 o1
      have e1 : ∀ (L : List Int) (g : Int → Int) (i : Nat), i < L.length → ix (L.map g) i = g (ix L i) := fun L g i hi => by simp [ix, hi]
      rw [e1 _ _ _ o1, o2] at h4
      omega
  have hlen := ordL_len (plHead l) (k := plN l) (by omega)
  have e : ix (ordL (plHead l) (plN l)) (hOrd.idxOf r.c.toNat) = ix (plHead l) r.c.toNat := by
    have e1 : ∀ (L : List Int) (g : Int → Int) (i : Nat), i < L.length → ix (L.map g) i = g (ix L i) := fun L g i hi => by simp [ix, hi]
    unfold ordL
    rw [e1 _ _ _ (by rw [List.length_take]; show _ < min (plN l) 19; omega), ix_takeB hlt, o2]
  unfold noneB
  rw [List.all_eq_false]
  refine ⟨ix (ordL (plHead l) (plN l)) (hOrd.idxOf r.c.toNat), ix_mem (by rw [hlen]; exact hlt), ?_⟩
  rw [e]; simp; omega
theorem ord_zero (l : List Tok) : ∀ i, plN l ≤ i → i < 19 → ix (plHead l) (ix ordQ i).toNat = 0 := fun i h1 h2 => by
  have h4 := trimQ_zero (ordQ.map fun k => ix (plHead l) k.toNat) 4 19 _ h1 h2
  have e1 : ∀ (L : List Int) (g : Int → Int) (i : Nat), i < L.length → ix (L.map g) i = g (ix L i) := fun L g i hi => by simp [ix, hi]
  rw [e1 _ _ _ h2] at h4
  exact h4
end Go.Proofs.Ytlgkiookobedcaa
namespace Go.Proofs.Ytlgkiookobedcaa
open Go.RowKit
set_option linter.unusedVariables false
def Reads (M : Nat) (L all kinds stops : List Int) (toks : List Tok) : Prop :=
  Bit L ∧ all.length ≤ M ∧ ∀ y, Bit y → (L.length + y.length) % 8 = 0 → ∃ t, IS.Steps (start (L ++ y) M) t ∧ t.st = 0 ∧ t.x = y ∧ t.all = all ∧ t.rem = M - all.length ∧ t.kinds = kinds ∧ t.stops = stops ∧ t.toks = toks
def Ends (M : Nat) (L all kinds stops : List Int) (toks : List Tok) : Prop :=
  Bit L ∧ all.length ≤ M ∧ ∀ y, Bit y → (L.length + y.length) % 8 = 0 → ∃ t, IS.Steps (start (L ++ y) M) t ∧ t.st = 8 ∧ t.x = algn y ∧ t.all = all ∧ t.kinds = kinds ∧ t.stops = stops ∧ t.toks = toks
theorem Reads.nil (M : Nat) : Reads M [] [] [] [] [] := ⟨Bit.nil_, Nat.zero_le _, fun y hy _ => ⟨start y M, .refl _, rfl, rfl, rfl, rfl, rfl, rfl, rfl⟩⟩
def blkAll (kind : Int) (l : List Tok) (raw all : List Int) : List Int := if kind = 0 then all ++ raw else (expand all l).2
theorem ofN_two : ofN 0 2 = [0, 0] ∧ ofN 1 2 = [1, 0] ∧ ofN 2 2 = [0, 1] := by decide
theorem num3 {b k1 k2 : Int} (hb : b = 0 ∨ b = 1) (h1 : k1 = 0 ∨ k1 = 1) (h2 : k2 = 0 ∨ k2 = 1) (z : List Int) : num ([b, k1, k2] ++ z) 3 = (b + 2 * k1 + 4 * k2).toNat := by
  rw [num_is (x := [b, k1, k2]) (n := 3) rfl]
  rcases hb with rfl | rfl <;> rcases h1 with rfl | rfl <;> rcases h2 with rfl | rfl <;> rfl
theorem ofN_65535 (n : Nat) (h : n ≤ 65535) : ofN (4294967295 - (n : Int)) 16 = ofN (65535 - (n : Int)) 16 := by
  rw [← ofN_mod (4294967295 - (n : Int)), ← ofN_mod (65535 - (n : Int))]
  have e : (2 : Int) ^ 16 = 65536 := by decide
  rw [e]
  congr 1
  omega
theorem Bit.blk (lit dist : List Int) (l : List Tok) : Bit (blkB lit dist l) := by
  unfold blkB toksB
  refine Bit.app (fun x hx => ?_) (Bit.sym _ _)
  obtain ⟨t, _, ht⟩ := List.mem_flatMap.1 hx
  unfold tokB at ht
  split at ht
  · exact Bit.sym _ _ x ht
  · exact (((Bit.sym _ _).app (Bit.ofN _ _)).app (Bit.sym _ _)).app (Bit.ofN _ _) x ht
theorem Bit.plan (l : List Tok) : Bit (planB l) := by
  unfold planB ordB rnsB
  refine ((((Bit.ofN _ _).app (Bit.ofN _ _)).app (Bit.ofN _ _)).app fun x hx => ?_).app fun x hx => ?_
  · obtain ⟨t, _, ht⟩ := List.mem_flatMap.1 hx
    exact Bit.ofN _ _ x ht
  · obtain ⟨t, _, ht⟩ := List.mem_flatMap.1 hx
    exact (Bit.sym _ _).app (Bit.ofN _ _) x ht
theorem Bit.hd3 {L : List Int} (h : Bit L) (kind : Int) (last : Bool) : Bit (hd3 kind last L) := (h.app (Bit.ofN _ _)).app (Bit.ofN _ _)
theorem Bit.out {L : List Int} (h : Bit L) (kind : Int) (l : List Tok) (raw : List Int) (last : Bool) : Bit (outB kind l raw last L) := by
  unfold outB
  split
  · unfold stoB
    exact (((Bit.evn (h.hd3 _ _)).app (Bit.ofN _ _)).app (Bit.ofN _ _)).app (Bit.bts _)
  · split
    · exact (h.hd3 _ _).app (Bit.blk _ _ _)
    · exact ((h.hd3 _ _).app (Bit.plan _)).app (Bit.blk _ _ _)
section
variable {M : Nat} {L all kinds stops : List Int} {toks : List Tok} {kind : Int} {l : List Tok} {raw : List Int} {last : Bool}
theorem plan_steps {t : IS} {y : List Int} (hst : t.st = 3) (hx : t.x = planB l ++ y) (hl : l.length < 1048576) :
    ∃ t', IS.Steps t t' ∧ HdS t t' ∧ t'.st = 6 ∧ t'.lt = plLit l ∧ t'.ds = plDist l ∧ t'.x = y := by
  have hb1 := litN_bd l
  have hb2 := dstN_bd l
  have hb3 := plN_bd l
  have hx1 : t.x = ofN (((litN l - 257 : Nat) : Int)) 5 ++ (ofN (((dstN l - 1 : Nat) : Int)) 5 ++ (ofN (((plN l - 4 : Nat) : Int)) 4 ++ (ordB (plHead l) (plN l) ++ (rnsB (plHead l) (plRuns l) ++ y)))) := by
    rw [hx]; unfold planB; simp only [List.append_assoc]
  have e1 := sizes_step hst hx1 (by omega) (by omega) (by omega)
  have s1 := IS.Steps.one (s := t) (by rw [e1])
  rw [e1] at s1
  obtain ⟨t1, ht1⟩ : ∃ t1 : IS, t1 = { t with x := ordB (plHead l) (plN l) ++ (rnsB (plHead l) (plRuns l) ++ y), c0 := litN l - 257 + 257, c1 := dstN l - 1 + 1, c2 := plN l - 4 + 4, lens := [], st := 4 } := ⟨_, rfl⟩
  rw [← ht1] at s1
  have a1 : HdS t t1 ∧ t1.st = 4 ∧ t1.c2 = plN l ∧ t1.lens = [] ∧ t1.x = ordF (plHead l) 0 (plN l) ++ (rnsB (plHead l) (plRuns l) ++ y) ∧ t1.c0 = litN l ∧ t1.c1 = dstN l := by
    rw [ht1, ordF_zero]
    exact ⟨⟨rfl, rfl, rfl, rfl, rfl, rfl⟩, rfl, by dsimp only; omega, rfl, rfl, by dsimp only; omega, by dsimp only; omega⟩
  clear ht1 e1
  obtain ⟨h1, b1, b2, b3, b4, b5, b6⟩ := a1
  obtain ⟨t2, s2, h2, c1, c2, c3, c4, c5, c6⟩ := heads_steps (hd := plHead l) (n := plN l) (by omega) (head_in l) (plN l) 0 t1 (by omega) (Nat.zero_le _) b1 b2 b3 b4
  have hord := hAll_ord (n := plN l) (hd := plHead l) (by omega) (plHead_len l) (ord_zero l)
  have e3 := heads_end (hd := plHead l) c1 (by rw [c3, ordL_len _ (by omega), c2]) (by rw [c3]; exact hord) (plHead_check l) (by rw [c3]; exact ord_some hl)
  have s3 := IS.Steps.one (s := t2) (by rw [e3])
  rw [e3] at s3
  obtain ⟨t3, ht3⟩ : ∃ t3 : IS, t3 = { t2 with hd := plHead l, lens := [], st := 5 } := ⟨_, rfl⟩
  rw [← ht3] at s3
  have a3 : HdS t2 t3 ∧ t3.st = 5 ∧ t3.hd = plHead l ∧ t3.lens = [] ∧ t3.x = rnsB (plHead l) (plRuns l) ++ y ∧ t3.c0 = litN l ∧ t3.c1 = dstN l := by
    rw [ht3]
    exact ⟨⟨rfl, rfl, rfl, rfl, rfl, rfl⟩, rfl, rfl, rfl, c4, c5.trans b5, c6.trans b6⟩
  clear ht3 e3
  obtain ⟨h3, d1, d2, d3, d4, d5, d6⟩ := a3
  obtain ⟨r1, r2⟩ := runs_dec _ (plLit l ++ plDist l) rfl (both_in hl) []
  have r1' : (plRuns l).foldl decR [] = plLit l ++ plDist l := by rw [List.nil_append] at r1; exact r1
  obtain ⟨t4, s4, h4, f1, f2, f3, f4, f5⟩ := runs_steps (plHead_check l) (plRuns l) t3 [] d1 d2 d3 d4 r2 (head_pos hl) (by rw [r1', List.length_append, plLit_len, plDist_len, d5, d6])
  rw [r1'] at f2
  have e5 := plan_end (l := plLit l) (d := plDist l) f1 f2 (by rw [f4, d5, plLit_len]) (by rw [f5, d6, plDist_len]) (plLit_check hl) (plDist_check hl) (lit_end hl)
  have s5 := IS.Steps.one (s := t4) (by rw [e5])
  rw [e5] at s5
  exact ⟨_, (((s1.trans s2).trans s3).trans s4).trans s5, ((h1.trans h2).trans (h3.trans h4)).trans ⟨rfl, rfl, rfl, rfl, rfl, rfl⟩, rfl, rfl, rfl, f3⟩
theorem Reads.blk (h : Reads M L all kinds stops toks) (hm : bkMay kind l raw.length = true) (hby : ∀ x ∈ raw, 0 ≤ x ∧ x < 256) (hlit : ∀ t ∈ l, 0 ≤ t.lit ∧ t.lit < 256) (he : kind ≠ 0 → (expand all l).1 = 0) (hM : (blkAll kind l raw all).length ≤ M) (y : List Int) (hy : Bit y) (hev : ((outB kind l raw last L).length + y.length) % 8 = 0) :
    ∃ t : IS, IS.Steps (start (outB kind l raw last L ++ y) M) t.over ∧ t.x = y ∧ t.last = last ∧ t.all = blkAll kind l raw all ∧ t.rem = M - (blkAll kind l raw all).length ∧ t.kinds = kinds ++ [kind] ∧ t.stops = stops ∧ t.toks = toks ++ (if kind = 0 then [] else l) := by
  obtain ⟨hbL, hlM, hR⟩ := h
  have hk : kind = 0 ∨ kind = 1 ∨ kind = 2 := by
    unfold bkMay at hm
    by_cases h0 : kind = 0
    · exact .inl h0
    · rw [if_neg h0] at hm
      by_cases h : ¬ (kind = 1 ∨ kind = 2) ∨ 1048576 ≤ l.length
      · rw [if_pos h] at hm; exact absurd hm (by decide)
      · omega
  obtain ⟨mk, hmk⟩ : ∃ mk : Int, (if last = true then (1 : Int) else 0) = mk := ⟨_, rfl⟩
  have hmk2 : mk = 0 ∨ mk = 1 := by cases last <;> simp at hmk <;> omega
  have hml : decide (mk = 1) = last := by cases last <;> simp at hmk <;> subst hmk <;> rfl
  have hmk1 : ofN mk 1 = [mk] := by rcases hmk2 with rfl | rfl <;> rfl
  have e0 : hd3 kind last L = L ++ ([mk] ++ ofN kind 2) := by unfold hd3; rw [hmk, hmk1, List.append_assoc]
  rcases hk with rfl | rfl | rfl
  · have hlen : raw.length ≤ 65535 := by
      unfold bkMay at hm
      rw [if_pos rfl] at hm
      exact of_decide_eq_true hm
    have hout : outB 0 l raw last L = evn (L ++ [mk, 0, 0]) ++ ofN raw.length 16 ++ ofN (65535 - (raw.length : Int)) 16 ++ bts raw := by
      unfold outB
      rw [if_pos rfl]
      unfold stoB
      rw [e0, ofN_two.1, ofN_65535 _ hlen]
      rfl
    obtain ⟨pad, hpad, hp8⟩ : ∃ pad : List Int, evn (L ++ [mk, 0, 0]) = L ++ [mk, 0, 0] ++ pad ∧ pad.length < 8 := ⟨_, rfl, by rw [List.length_replicate]; omega⟩
    have hpb : Bit pad := fun x hx => (Bit.evn (hbL.app (b := [mk, 0, 0]) (by intro x hx; rcases List.mem_cons.1 hx with rfl | hx; exact hmk2; simp at hx; omega))) x (by rw [hpad]; exact List.mem_append_right _ hx)
    have hsplit : outB 0 l raw last L ++ y = L ++ ([mk, 0, 0] ++ (pad ++ (ofN raw.length 16 ++ ofN (65535 - raw.length) 16 ++ (bts raw ++ y)))) := by
      rw [hout, hpad]; simp only [List.append_assoc]
    have hyb : Bit ([mk, 0, 0] ++ (pad ++ (ofN raw.length 16 ++ ofN (65535 - (raw.length : Int)) 16 ++ (bts raw ++ y)))) :=
      Bit.app (by intro x hx; rcases List.mem_cons.1 hx with rfl | hx; exact hmk2; simp at hx; omega) (hpb.app (((Bit.ofN _ _).app (Bit.ofN _ _)).app ((Bit.bts _).app hy)))
    obtain ⟨t, s1, b1, b2, b3, b4, b5, b6, b7⟩ := hR _ hyb (by
      have : (outB 0 l raw last L ++ y).length % 8 = 0 := by rw [List.length_append]; exact hev
      rw [hsplit, List.length_append] at this; exact this)
    have hye : y.length % 8 = 0 := by
      rw [hout, List.length_append, List.length_append, List.length_append, ofN_length, ofN_length, bts_length] at hev
      have := evn_even (L ++ [mk, 0, 0])
      omega
    have hbl : blkAll 0 l raw all = all ++ raw := if_pos rfl
    rw [hbl] at hM ⊢
    rw [List.length_append] at hM
    have h2 := stored_block (s := t) (B := raw) (pad := pad) (y := y) (h := mk) b1 hmk2 b2 hp8 hye hy hby hlen (by rw [b4]; omega)
    rw [← hsplit] at s1
    refine ⟨_, s1.trans h2, rfl, hml, ?_, ?_, ?_, b6, ?_⟩
    · show t.all ++ raw = _; rw [b3]
    · show t.rem - raw.length = _; rw [b4, List.length_append]; omega
    · show t.kinds ++ [0] = _; rw [b5]
    · show t.toks = _; rw [b7, if_pos rfl, List.append_nil]
  · obtain ⟨m1, m2⟩ := may_one hm
    have hsplit : outB 1 l raw last L ++ y = L ++ ([mk, 1, 0] ++ (blkB fixL fixD l ++ y)) := by
      unfold outB
      rw [if_neg (by decide), if_pos rfl, e0, ofN_two.2.1]
      simp only [List.append_assoc, List.cons_append, List.nil_append]
    have hyb : Bit ([mk, 1, 0] ++ (blkB fixL fixD l ++ y)) := Bit.app (by intro x hx; rcases List.mem_cons.1 hx with rfl | hx; exact hmk2; simp at hx; omega) ((Bit.blk _ _ _).app hy)
    obtain ⟨t, s1, b1, b2, b3, b4, b5, b6, b7⟩ := hR _ hyb (by
      have : (outB 1 l raw last L ++ y).length % 8 = 0 := by rw [List.length_append]; exact hev
      rw [hsplit, List.length_append] at this; exact this)
    rw [← hsplit] at s1
    have hbl : blkAll 1 l raw all = (expand all l).2 := if_neg (by decide)
    rw [hbl] at hM ⊢
    have hn := num3 hmk2 (.inr rfl : (1 : Int) = 0 ∨ (1 : Int) = 1) (.inl rfl : (0 : Int) = 0 ∨ (0 : Int) = 1) (blkB fixL fixD l ++ y)
    have e1 : t.step = ({ t with last := last, kinds := t.kinds ++ [1], x := blkB fixL fixD l ++ y, lt := fixL, ds := fixD, st := 6 }, 0) := by
      unfold IS.step
      rw [if_pos b1]
      unfold IS.block
      rw [b2, hn, if_neg (by rw [List.length_append]; simp), if_neg (by rcases hmk2 with rfl | rfl <;> decide), if_pos (by rcases hmk2 with rfl | rfl <;> decide), drop_len (by rfl)]
      rw [← hml]
      rcases hmk2 with rfl | rfl <;> rfl
    have s2 := s1.tail (by rw [e1])
    rw [e1] at s2
    have hT : TkSt ({ t with last := last, kinds := t.kinds ++ [1], x := blkB fixL fixD l ++ y, lt := fixL, ds := fixD, st := 6 } : IS) fixL fixD last (blkB fixL fixD l ++ y) all (M - all.length) (kinds ++ [1]) stops toks := ⟨rfl, rfl, rfl, rfl, rfl, b3, b4, by dsimp only; rw [b5], b6, b7⟩
    have hex : expand all l = (0, (expand all l).2) := by rw [← he (by decide)]
    obtain ⟨t2, s3, h3⟩ := blk_steps hT fix_ok.1 fix_ok.2 (by rw [fixL_len]; omega) (fixL_pos 256 (by omega)) (fun k hk => ⟨m2 k hk, hlit k hk, fix_sym (m2 k hk) (hlit k hk)⟩) hex (by omega)
    refine ⟨_, s2.trans s3, rfl, h3.last, h3.all, ?_, h3.kinds, h3.stops, ?_⟩
    · show t2.rem = _
      rw [h3.rem]
      obtain ⟨z, hz⟩ := expand_ok (out := all) (l := l) (by rw [hex])
      have := congrArg List.length hz
      rw [List.length_append] at this
      omega
    · show t2.toks = _
      rw [h3.toks, if_neg (by decide)]
  · obtain ⟨m1, m2⟩ := may_two hm
    have hsplit : outB 2 l raw last L ++ y = L ++ ([mk, 0, 1] ++ (planB l ++ (blkB (plLit l) (plDist l) l ++ y))) := by
      unfold outB
      rw [if_neg (by decide), if_neg (by decide), e0, ofN_two.2.2]
      simp only [List.append_assoc, List.cons_append, List.nil_append]
    have hyb : Bit ([mk, 0, 1] ++ (planB l ++ (blkB (plLit l) (plDist l) l ++ y))) := Bit.app (by intro x hx; rcases List.mem_cons.1 hx with rfl | hx; exact hmk2; simp at hx; omega) ((Bit.plan _).app ((Bit.blk _ _ _).app hy))
    obtain ⟨t, s1, b1, b2, b3, b4, b5, b6, b7⟩ := hR _ hyb (by
      have : (outB 2 l raw last L ++ y).length % 8 = 0 := by rw [List.length_append]; exact hev
      rw [hsplit, List.length_append] at this; exact this)
    rw [← hsplit] at s1
    have hbl : blkAll 2 l raw all = (expand all l).2 := if_neg (by decide)
    rw [hbl] at hM ⊢
    have hn := num3 hmk2 (.inl rfl : (0 : Int) = 0 ∨ (0 : Int) = 1) (.inr rfl : (1 : Int) = 0 ∨ (1 : Int) = 1) (planB l ++ (blkB (plLit l) (plDist l) l ++ y))
    have e1 : t.step = ({ t with last := last, kinds := t.kinds ++ [2], x := planB l ++ (blkB (plLit l) (plDist l) l ++ y), st := 3 }, 0) := by
      unfold IS.step
      rw [if_pos b1]
      unfold IS.block
      rw [b2, hn, if_neg (by rw [List.length_append]; simp), if_neg (by rcases hmk2 with rfl | rfl <;> decide), if_neg (by rcases hmk2 with rfl | rfl <;> decide), if_pos (by rcases hmk2 with rfl | rfl <;> decide), drop_len (by rfl)]
      rw [← hml]
      rcases hmk2 with rfl | rfl <;> rfl
    have s2 := s1.tail (by rw [e1])
    rw [e1] at s2
    obtain ⟨t1, s3, h3, c1, c2, c3, c4⟩ := plan_steps (t := { t with last := last, kinds := t.kinds ++ [2], x := planB l ++ (blkB (plLit l) (plDist l) l ++ y), st := 3 }) rfl rfl m1
    have hT : TkSt t1 (plLit l) (plDist l) last (blkB (plLit l) (plDist l) l ++ y) all (M - all.length) (kinds ++ [2]) stops toks := ⟨c1, c2, c3, h3.last, c4, h3.all.trans b3, h3.rem.trans b4, h3.kinds.trans (by dsimp only; rw [b5]), h3.stops.trans b6, h3.toks.trans b7⟩
    have hex : expand all l = (0, (expand all l).2) := by rw [← he (by decide)]
    obtain ⟨t2, s4, h4⟩ := blk_steps hT (plLit_check m1) (plDist_check m1) (by rw [plLit_len]; have := litN_bd l; omega) (lit_end m1) (fun k hk => ⟨m2 k hk, hlit k hk, dyn_sym m1 hk (m2 k hk) (hlit k hk)⟩) hex (by omega)
    refine ⟨_, (s2.trans s3).trans s4, rfl, h4.last, h4.all, ?_, h4.kinds, h4.stops, ?_⟩
    · show t2.rem = _
      rw [h4.rem]
      obtain ⟨z, hz⟩ := expand_ok (out := all) (l := l) (by rw [hex])
      have := congrArg List.length hz
      rw [List.length_append] at this
      omega
    · show t2.toks = _
      rw [h4.toks, if_neg (by decide)]
theorem Reads.next (h : Reads M L all kinds stops toks) (hm : bkMay kind l raw.length = true) (hby : ∀ x ∈ raw, 0 ≤ x ∧ x < 256) (hlit : ∀ t ∈ l, 0 ≤ t.lit ∧ t.lit < 256) (he : kind ≠ 0 → (expand all l).1 = 0) (hM : (blkAll kind l raw all).length ≤ M) :
    Reads M (outB kind l raw false L) (blkAll kind l raw all) (kinds ++ [kind]) (stops ++ [((blkAll kind l raw all).length : Int)]) (toks ++ (if kind = 0 then [] else l)) := by
  refine ⟨h.1.out _ _ _ _, hM, fun y hy hev => ?_⟩
  obtain ⟨t, s, b1, b2, b3, b4, b5, b6, b7⟩ := h.blk hm hby hlit he hM y hy hev
  refine ⟨_, s, ?_⟩
  unfold IS.over
  rw [b2, if_neg (by decide)]
  exact ⟨rfl, b1, b3, b4, b5, by dsimp only; rw [b6, b3], b7⟩
theorem Reads.fin (h : Reads M L all kinds stops toks) (hm : bkMay kind l raw.length = true) (hby : ∀ x ∈ raw, 0 ≤ x ∧ x < 256) (hlit : ∀ t ∈ l, 0 ≤ t.lit ∧ t.lit < 256) (he : kind ≠ 0 → (expand all l).1 = 0) (hM : (blkAll kind l raw all).length ≤ M) :
    Ends M (outB kind l raw true L) (blkAll kind l raw all) (kinds ++ [kind]) (stops ++ [((blkAll kind l raw all).length : Int)]) (toks ++ (if kind = 0 then [] else l)) := by
  refine ⟨h.1.out _ _ _ _, hM, fun y hy hev => ?_⟩
  obtain ⟨t, s, b1, b2, b3, b4, b5, b6, b7⟩ := h.blk hm hby hlit he hM y hy hev
  refine ⟨_, s, ?_⟩
  unfold IS.over
  rw [b2, if_pos rfl]
  exact ⟨rfl, by dsimp only; rw [b1], b3, b5, by dsimp only; rw [b6, b3], b7⟩
theorem Ends.fin (h : Ends M L all kinds stops toks) : ∃ t, (start (evn L) M).fin = (t, 8) ∧ t.x = [] ∧ t.all = all ∧ t.kinds = kinds ∧ t.stops = stops ∧ t.toks = toks := by
  obtain ⟨hb, hM, hE⟩ := h
  obtain ⟨t, s, b1, b2, b3, b4, b5, b6⟩ := hE (List.replicate ((8 - L.length % 8) % 8) 0) (Bit.zeros _) (by rw [List.length_replicate]; omega)
  have e : L ++ List.replicate ((8 - L.length % 8) % 8) 0 = evn L := rfl
  rw [e] at s
  refine ⟨t, ?_, ?_, b3, b4, b5, b6⟩
  · rw [← s.fin_eq]
    have e8 : t.step = (t, 8) := by unfold IS.step; rw [b1]; rfl
    rw [IS.fin_stop (by rw [e8]; simp), e8]
  · rw [b2]
    unfold algn
    rw [List.length_replicate, List.drop_of_length_le (by rw [List.length_replicate]; omega)]
end
end Go.Proofs.Ytlgkiookobedcaa
namespace Go.Proofs.Ytlgkiookobedcaa
open Go.RowKit
set_option linter.unusedVariables false
def sumL (l f : List Int) : Nat → Int
  | 0 => 0
  | k + 1 => sumL l f k + ix l k * ix f k
theorem cost_sum {l f : List Int} (hl : ∀ i, 0 ≤ ix l i ∧ ix l i ≤ 15) (hf : ∀ i, 0 ≤ ix f i ∧ ix f i ≤ 1048576) : ∀ k, costTo l f k = sumL l f k
  | 0 => rfl
  | k + 1 => by
    rw [costTo, sumL, cost_sum hl hf k]
    congr 1
    have h1 := hl k
    have h2 := hf k
    by_cases h : 0 < ix l k ∧ 0 < ix f k
    · exact costOf_yes h.1 h.2 h2.2 (by omega)
    · rw [costOf_no (by omega)]
      have : ix l k = 0 ∨ ix f k = 0 := by omega
      rcases this with h | h <;> rw [h] <;> simp
theorem sum_bump (l f : List Int) (s : Nat) : ∀ k, sumL l (bump f s) k = sumL l f k + if s < k ∧ s < f.length then ix l s else 0
  | 0 => by simp [sumL]
  | k + 1 => by
    rw [sumL, sumL, sum_bump l f s k, ix_bump]
    by_cases h1 : s = k
    · subst h1
      rw [if_neg (show ¬ (s < s ∧ s < f.length) from fun h => Nat.lt_irrefl _ h.1)]
      by_cases h2 : s < f.length
      · rw [if_pos (show s = s ∧ s < f.length from ⟨rfl, h2⟩), if_pos (show s < s + 1 ∧ s < f.length from ⟨Nat.lt_succ_self _, h2⟩), Int.mul_add]; omega
      · rw [if_neg (show ¬ (s = s ∧ s < f.length) from fun h => h2 h.2), if_neg (show ¬ (s < s + 1 ∧ s < f.length) from fun h => h2 h.2)]; omega
    · rw [if_neg (show ¬ (s = k ∧ k < f.length) from fun h => h1 h.1)]
      by_cases h2 : s < k ∧ s < f.length
      · rw [if_pos h2, if_pos (show s < k + 1 ∧ s < f.length from ⟨by omega, h2.2⟩)]; omega
      · rw [if_neg h2, if_neg (show ¬ (s < k + 1 ∧ s < f.length) from fun h => h2 ⟨by omega, h.2⟩)]; omega
theorem sum_zeros (l : List Int) (n : Nat) : ∀ k, sumL l (List.replicate n 0) k = 0
  | 0 => rfl
  | k + 1 => by
    rw [sumL, sum_zeros l n k]
    have : ix (List.replicate n (0 : Int)) k = 0 := by
      unfold ix
      rw [List.getD_eq_getElem?_getD, List.getElem?_replicate]
      split <;> rfl
    rw [this]; simp
theorem fq0_bump : fq0 = (bump (List.replicate 286 0) 256, List.replicate 30 0) := by
  unfold fq0 fq0.zrI bump
  rw [ix_repB _ (by omega)]
  rfl
theorem toks_cost {lit dist : List Int} (hl : ∀ i, 0 ≤ ix lit i) (hd : ∀ i, 0 ≤ ix dist i) (l : List Tok) : (∀ t ∈ l, soundT t ∧ (0 ≤ t.lit ∧ t.lit < 256)) → sumL lit (fqT l).1 286 + sumL dist (fqT l).2 30 + ((exs l : Nat) : Int) = ((blkB lit dist l).length : Int) := by
  refine fold_snoc (β := Nat) (motive := fun l => (∀ t ∈ l, soundT t ∧ (0 ≤ t.lit ∧ t.lit < 256)) → sumL lit (fqT l).1 286 + sumL dist (fqT l).2 30 + ((exs l : Nat) : Int) = ((blkB lit dist l).length : Int)) ?_ ?_ l
  · intro _
    rw [fqT_nil, fq0_bump]
    simp only
    rw [sum_bump, sum_zeros, sum_zeros, if_pos ⟨by omega, by rw [List.length_replicate]; omega⟩]
    unfold blkB toksB exs
    rw [List.length_append, symBits_length]
    have := hl 256
    simp; omega
  · intro l t ih h
    have h1 := ih fun u hu => h u (List.mem_append_left _ hu)
    obtain ⟨s1, s2⟩ := h t (List.mem_append_right _ (List.mem_singleton.2 rfl))
    have hln := fq_len l
    have he : exs (l ++ [t]) = exs l + exT t := by simp [exs]
    have hb : (blkB lit dist (l ++ [t])).length = (blkB lit dist l).length + (tokB lit dist t).length := by
      unfold blkB
      rw [toksB_app, toksB_one]
      simp only [List.length_append]; omega
    rw [fqT_snoc, he, hb]
    unfold fqS tokB exT
    by_cases h0 : t.len = 0
    · rw [if_pos h0, if_pos h0]
      simp only
      rw [sum_bump, if_pos ⟨by omega, by rw [hln.1]; omega⟩, symBits_length]
      have hdz : t.dist = 0 := by unfold soundT at s1; rw [if_pos h0] at s1; exact s1
      rw [if_neg (by omega), if_neg (by omega)]
      have := hl t.lit.toNat
      omega
    · rw [if_neg h0, if_neg h0]
      obtain ⟨b1, b2, j28, q29⟩ := tok_bd s1 h0
      simp only
      rw [sum_bump, sum_bump, if_pos ⟨by omega, by rw [hln.1]; omega⟩, if_pos ⟨by omega, by rw [hln.2]; omega⟩, if_pos b1, if_pos b2]
      simp only [List.length_append, symBits_length, ofN_length]
      have := hl (257 + lenJ t.len)
      have := hd (distJ t.dist)
      omega
theorem ix_in {l : List Int} {m : Int} (hm : 0 ≤ m) (h : ∀ i, i < l.length → 0 ≤ ix l i ∧ ix l i ≤ m) (i : Nat) : 0 ≤ ix l i ∧ ix l i ≤ m := by
  by_cases hi : i < l.length
  · exact h i hi
  · have : ix l i = 0 := by unfold ix; rw [List.getD_eq_getElem?_getD, List.getElem?_eq_none (by omega)]; rfl
    rw [this]; exact ⟨Int.le_refl _, hm⟩
theorem sum_cut {l f : List Int} {n : Nat} (h : ∀ i, n ≤ i → ix l i = 0) : ∀ k, sumL l f (n + k) = sumL l f n
  | 0 => rfl
  | k + 1 => by rw [← Nat.add_assoc, sumL, sum_cut h k, h (n + k) (by omega)]; simp
theorem ix_none {l : List Int} {i : Nat} (h : l.length ≤ i) : ix l i = 0 := by unfold ix; rw [List.getD_eq_getElem?_getD, List.getElem?_eq_none h]; rfl
theorem plan_cost {l : List Tok} (hl : l.length < 1048576) : ((planB l).length : Int) = szP l := by
  have h2 := plRuns_ok hl
  have h3 := plN_bd l
  have h4 : ∀ rs : List Rn, (∀ r ∈ rs, RnOk r) → ((rnsB (plHead l) rs).length : Int) = rnsCost (plHead l) rs := fun rs => by
    induction rs with
    | nil => intro _; rfl
    | cons r rs ih =>
      intro h
      have h5 := ih fun x hx => h x (List.mem_cons_of_mem _ hx)
      have h6 := h r List.mem_cons_self
      have h7 := head_in l r.c.toNat (by have := h6.1; omega)
      have h8 := h6.2.2.1
      show ((rnB (plHead l) r ++ rnsB (plHead l) rs).length : Int) = rnCost (plHead l) r + rnsCost (plHead l) rs
      rw [List.length_append, ← h5]
      unfold rnB rnCost
      rw [List.length_append, symBits_length, ofN_length]
      omega
  unfold planB szP
  simp only [List.length_append, ofN_length]
  rw [ordB_len _ _ (by omega)]
  have := h4 _ h2
  omega
theorem fq_in {l : List Tok} (hl : l.length < 1048576) : (∀ i, 0 ≤ ix (fqT l).1 i ∧ ix (fqT l).1 i ≤ 1048576) ∧ ∀ i, 0 ≤ ix (fqT l).2 i ∧ ix (fqT l).2 i ≤ 1048576 :=
  ⟨fun i => by have := (fq_bd l i).1; omega, fun i => by have := (fq_bd l i).2; omega⟩
theorem fix_in : (∀ i, 0 ≤ ix fixL i ∧ ix fixL i ≤ 15) ∧ ∀ i, 0 ≤ ix fixD i ∧ ix fixD i ≤ 15 := by
  have h1 := (check_ok' fix_ok.1).2.1
  have h2 := (check_ok' fix_ok.2).2.1
  exact ⟨ix_in (by decide) h1, ix_in (by decide) h2⟩
theorem out_len {kind : Int} {l : List Tok} {raw L : List Int} {last : Bool} (hm : bkMay kind l raw.length = true) (hlit : ∀ t ∈ l, 0 ≤ t.lit ∧ t.lit < 256) (h8 : kind = 0 → L.length % 8 = 0) : ((outB kind l raw last L).length : Int) = (L.length : Int) + costB kind l raw.length := by
  have hk : kind = 0 ∨ kind = 1 ∨ kind = 2 := by
    unfold bkMay at hm
    by_cases h0 : kind = 0
    · exact .inl h0
    · rw [if_neg h0] at hm
      by_cases h : ¬ (kind = 1 ∨ kind = 2) ∨ 1048576 ≤ l.length
      · rw [if_pos h] at hm; exact absurd hm (by decide)
      · omega
  unfold outB costB
  rcases hk with rfl | rfl | rfl
  · rw [if_pos rfl, if_pos rfl]
    unfold stoB
    rw [List.length_append, List.length_append, List.length_append, ofN_length, ofN_length, bts_length, evn_length, hd3_len]
    have := h8 rfl
    omega
  · obtain ⟨m1, m2⟩ := may_one hm
    rw [if_neg (by decide), if_pos rfl, if_neg (by decide), if_pos rfl, List.length_append, hd3_len]
    have h := toks_cost (fun i => (fix_in.1 i).1) (fun i => (fix_in.2 i).1) l fun t ht => ⟨m2 t ht, hlit t ht⟩
    unfold costF
    rw [cost_sum fix_in.1 (fq_in m1).1, cost_sum fix_in.2 (fq_in m1).2]
    omega
  · obtain ⟨m1, m2⟩ := may_two hm
    rw [if_neg (by decide), if_neg (by decide), if_neg (by decide), if_neg (by decide), List.length_append, List.length_append, hd3_len]
    have hi1 := ix_in (by decide) (chk_in (plLit_check m1))
    have hi2 := ix_in (by decide) (chk_in (plDist_check m1))
    have h := toks_cost (fun i => (hi1 i).1) (fun i => (hi2 i).1) l fun t ht => ⟨m2 t ht, hlit t ht⟩
    have hc1 := sum_cut (l := plLit l) (f := (fqT l).1) (n := litN l) (fun i hi => ix_none (by rw [plLit_len]; exact hi)) (286 - litN l)
    have hc2 := sum_cut (l := plDist l) (f := (fqT l).2) (n := dstN l) (fun i hi => ix_none (by rw [plDist_len]; exact hi)) (30 - dstN l)
    have hb1 := litN_bd l
    have hb2 := dstN_bd l
    rw [show litN l + (286 - litN l) = 286 by omega] at hc1
    rw [show dstN l + (30 - dstN l) = 30 by omega] at hc2
    unfold costD
    rw [cost_sum hi1 (fq_in m1).1, cost_sum hi2 (fq_in m1).2, ← hc1, ← hc2]
    have := plan_cost m1
    omega
theorem cost_bd {kind : Int} {l : List Tok} {m : Nat} (hm : bkMay kind l m = true) (hlit : ∀ t ∈ l, 0 ≤ t.lit ∧ t.lit < 256) : 0 ≤ costB kind l m ∧ costB kind l m ≤ 60000000 := by
  by_cases h0 : kind = 0
  · subst h0
    unfold costB
    rw [if_pos rfl]
    unfold bkMay at hm
    rw [if_pos rfl] at hm
    have := of_decide_eq_true hm
    omega
  · have hl : l.length < 1048576 ∧ (∀ t ∈ l, soundT t) ∧ (kind = 1 ∨ kind = 2) := by
      unfold bkMay at hm
      rw [if_neg h0] at hm
      by_cases h : ¬ (kind = 1 ∨ kind = 2) ∨ 1048576 ≤ l.length
      · rw [if_pos h] at hm; exact absurd hm (by decide)
      · rw [if_neg h, List.all_eq_true] at hm
        exact ⟨by omega, fun t ht => of_decide_eq_true (hm t ht), by omega⟩
    have hm' : bkMay kind l ([] : List Int).length = true := by
      unfold bkMay at hm ⊢
      rw [if_neg h0] at hm ⊢
      exact hm
    have ho := out_len (L := []) (raw := []) (last := false) hm' hlit (fun h => absurd h h0)
    have hc : costB kind l ([] : List Int).length = costB kind l m := by unfold costB; rw [if_neg h0, if_neg h0]
    rw [hc] at ho
    have hb : ∀ lit dist : List Int, checkOf lit 15 = 0 → checkOf dist 15 = 0 → (blkB lit dist l).length ≤ 48 * l.length + 15 := fun lit dist h1 h2 => by
      have h3 := toks_le (check_ok' h1).2.1 (check_ok' h2).2.1 l hl.2.1
      have h4 := sym_le (check_ok' h1).2.1 256
      unfold blkB
      rw [List.length_append]; omega
    have hp := planB_le hl.1
    have h1 := hb fixL fixD fix_ok.1 fix_ok.2
    have h2 := hb (plLit l) (plDist l) (plLit_check hl.1) (plDist_check hl.1)
    have hlen : (outB kind l [] false []).length ≤ 60000000 := by
      unfold outB
      rw [if_neg h0]
      split
      · rw [List.length_append, hd3_len, List.length_nil]; omega
      · rw [List.length_append, List.length_append, hd3_len, List.length_nil]; omega
    simp only [List.length_nil] at ho
    omega
end Go.Proofs.Ytlgkiookobedcaa
namespace Go.Proofs.Ytlgkiookobedcaa
open Go.RowKit
set_option linter.unusedVariables false
def pickK (f : Nat → Int) : Nat → Int × Int
  | 0 => (-1, 0)
  | k + 1 => if 0 ≤ f k ∧ ((pickK f k).1 < 0 ∨ f k < (pickK f k).2) then ((k : Int), f k) else pickK f k
def cstK (toks : List Tok) (m : Nat) (k : Nat) : Int := if bkMay (k : Int) toks m = true then costB (k : Int) toks m else -1
theorem pickK_in (f : Nat → Int) : ∀ k, (pickK f k).1 = -1 ∨ ∃ i : Nat, i < k ∧ (pickK f k).1 = (i : Int) ∧ (pickK f k).2 = f i ∧ 0 ≤ f i
  | 0 => .inl rfl
  | k + 1 => by
    unfold pickK
    split
    · rename_i h
      exact .inr ⟨k, by omega, rfl, rfl, h.1⟩
    · rcases pickK_in f k with h | ⟨i, h1, h2⟩
      · exact .inl h
      · exact .inr ⟨i, by omega, h2⟩
theorem pickK_some (f : Nat → Int) : ∀ k i, i < k → 0 ≤ f i → 0 ≤ (pickK f k).1 ∧ (pickK f k).2 ≤ f i
  | 0, i, h, _ => by omega
  | k + 1, i, h, h0 => by
    unfold pickK
    have hin := pickK_in f k
    by_cases hi : i = k
    · subst hi
      split
      · exact ⟨by simp, Int.le_refl _⟩
      · rename_i h9
        rcases hin with h8 | ⟨j, _, h8, h7, _⟩ <;> omega
    · obtain ⟨p1, p2⟩ := pickK_some f k i (by omega) h0
      split
      · rename_i h9
        constructor
        · simp
        · show f k ≤ f i; omega
      · exact ⟨p1, p2⟩
theorem cst_bd {toks : List Tok} {m : Nat} (hlit : ∀ t ∈ toks, 0 ≤ t.lit ∧ t.lit < 256) (k : Nat) : -1 ≤ cstK toks m k ∧ cstK toks m k ≤ 60000000 := by
  unfold cstK
  by_cases h : bkMay (k : Int) toks m = true
  · rw [if_pos h]; have := cost_bd h hlit; omega
  · rw [if_neg h]; omega
theorem cst_may {toks : List Tok} {m k : Nat} (h : 0 ≤ cstK toks m k) : bkMay (k : Int) toks m = true := by
  unfold cstK at h
  by_cases h2 : bkMay (k : Int) toks m = true
  · exact h2
  · rw [if_neg h2] at h; omega
def WrPost (w : World) (b0 g : Nat) (A : Option Addr) (L raw : List Int) (toks : List Tok) (m : Nat) (last : Bool) (e : Ending) (w' : World) : Prop :=
  e = .returned (.int .i64 (pickK (cstK toks m) 3).1) ∧ (((pickK (cstK toks m) 3).1 = -1 ∧ Below w.heap.size w w') ∨ (0 ≤ (pickK (cstK toks m) 3).1 ∧ BkS w w' b0 g A (outB (pickK (cstK toks m) 3).1 toks raw last L)))
set_option maxRecDepth 100000 in
set_option maxHeartbeats 4000000 in
theorem bwrite_any (w : World) (b0 g n c : Nat) (A : Option Addr) (L : List Int) (hw : Wtr w b0 g A n c L) (At : Option Addr) (nt ct : Nat) (toks : List Tok) (hT : RdT w w.heap.size At nt toks) (hnt : (nt : Int) ≤ 4611686018427387904) (hsep : 0 < nt → ∀ ad, At = some ad → ¬ foot A g ad.block) (hlit : ∀ t ∈ toks, 0 ≤ t.lit ∧ t.lit < 256)
    (C : Option Addr) (m cr : Nat) (raw : List Int) (hr : RdI .u8 w w.heap.size C m raw) (hsepr : 0 < m → ∀ ad, C = some ad → ¬ foot A g ad.block) (hby : ∀ x ∈ raw, 0 ≤ x ∧ x < 256) (last : Bool) (hlen : L.length ≤ 2000000000000) :
    Calls Try.prog 43 #[.pointer (some ⟨g, 0, none⟩), .slice At nt ct, .slice C m cr, .bool last] w (WrPost w b0 g A L raw toks m last) := by
  have HH := Lib.hid (⟨hw, hT, hnt, hsep, hlit, hr, hsepr, hby, hlen⟩ : _ ∧ _ ∧ _ ∧ _ ∧ _ ∧ _ ∧ _ ∧ _ ∧ _)
  obtain ⟨f, hf⟩ : ∃ f, cstK toks m = f := ⟨_, rfl⟩
  have HF : Hid ((∀ k, -1 ≤ f k ∧ f k ≤ 60000000) ∧ ∀ k, 0 ≤ f k → bkMay (k : Int) toks m = true) := by rw [← hf]; exact ⟨cst_bd hlit, fun k h => cst_may h⟩
  have HCO : Hid (∀ (W : World) (k : Nat), Below w.heap.size w W → Calls Try.prog 58 #[.int .i64 (k : Int), .slice At nt ct, .slice C m cr] W fun e w' => e = .returned (.int .i64 (f k)) ∧ Below W.heap.size W w') := fun W k h => by
    have := bcost_any W (k : Int) At nt ct toks ((hT.below h).more h.size) hnt hlit C m cr
    rw [show (if bkMay (k : Int) toks m = true then costB (k : Int) toks m else -1) = f k by rw [← hf]; rfl] at this
    exact this
  have HFF := Lib.hid hf
  clear hw hT hnt hsep hlit hr hsepr hby hlen hf
  go_enter Try.func43, Try.ntmps43
  go_wp2_with fail
  go_loopg [9, 10, 11] 3 (fun (gk : Nat) (v9 v10 v11 : Value) wx => ∃ (k : Nat) (b c : Int), v9 = .int .i64 b ∧ v10 = .int .i64 c ∧ v11 = .int .i64 k ∧ k ≤ 3 ∧ Hid (pickK f k = (b, c)) ∧ Hid (Below w.heap.size w wx) ∧ Hid (gk = 3 - k))
  case atStart => exact ⟨0, -1, 0, rfl, rfl, rfl, by omega, rfl, Below.refl _ _, rfl⟩
  case round =>
    obtain ⟨k, b, cc, rfl, rfl, rfl, hk, hp, hb, hg⟩ := hrel
    have hin := pickK_in f k
    rw [hp.out] at hin
    dsimp only at hin
    have hbb : -1 ≤ b ∧ b ≤ 3 := by rcases hin with h | ⟨i, h1, h2, _⟩ <;> omega
    by_cases hlt : k ≤ 2
    · have hkI : (k : Int) ≤ 2 ∧ (0 : Int) ≤ (k : Int) := by omega
      have HC := Lib.hid (HCO.out wr k hb.out)
      obtain ⟨N, hN⟩ : ∃ N, f k = N := ⟨_, rfl⟩
      have hNb := HF.out.1 k
      rw [hN] at HC hNb
      have hcb : -1 ≤ cc ∧ cc ≤ 60000000 := by
        rcases hin with h | ⟨i, _, _, h1, _⟩
        · have h0 : ∀ j, (pickK f j).1 = -1 → (pickK f j).2 = 0 := fun j => by
            induction j with
            | zero => intro _; rfl
            | succ j ih =>
              intro h9
              unfold pickK at h9 ⊢
              split at h9
              · exfalso; dsimp only at h9; omega
              · rename_i h8; rw [if_neg h8]; exact ih h9
          have h7 := h0 k (by rw [hp.out]; exact h)
          rw [hp.out] at h7
          have h7 : cc = 0 := h7
          omega
        · have := HF.out.1 i; omega
      have HNX : Hid (pickK f (k + 1) = if 0 ≤ N ∧ (b < 0 ∨ N < cc) then ((k : Int), N) else (b, cc)) := by
        show _ = _
        rw [show pickK f (k + 1) = if 0 ≤ f k ∧ ((pickK f k).1 < 0 ∨ f k < (pickK f k).2) then ((k : Int), f k) else pickK f k from rfl, hp.out, hN]
      clear hin hN hp hlt
      go_wp2_with fail
      refine HC.out.mono ?_
      rintro e w5 ⟨rfl, hb5⟩
      have HB6 := Lib.hid (hb.out.trans (hb5.mono hb.out.size))
      clear hb5
      by_cases hc : 0 ≤ N ∧ (b < 0 ∨ N < cc)
      · have hnx := HNX.out
        rw [if_pos hc] at hnx
        have HN2 := Lib.hid hnx
        clear hnx HNX
        obtain ⟨hc1, hc2⟩ := hc
        by_cases hb0 : b < 0
        · clear hc2
          go_wp2_with fail
          go_roundg (3 - (k + 1))
          case measure => have := hg.out; omega
          case rel => exact ⟨k + 1, (k : Int), N, rfl, rfl, by go_num, by omega, HN2.out, HB6.out, rfl⟩
        · have hb0d : decide (b < 0) = false := by simp; omega
          have hnc : N < cc := by rcases hc2 with h | h; exact absurd h hb0; exact h
          clear hc2
          go_wp2_with fail
          go_roundg (3 - (k + 1))
          case measure => have := hg.out; omega
          case rel => exact ⟨k + 1, (k : Int), N, rfl, rfl, by go_num, by omega, HN2.out, HB6.out, rfl⟩
      · have hnx := HNX.out
        rw [if_neg hc] at hnx
        have HN2 := Lib.hid hnx
        clear hnx HNX
        by_cases hN0 : 0 ≤ N
        · have hb0d : decide (b < 0) = false := by simp; omega
          have hnc : decide (N < cc) = false := by simp; omega
          clear hc
          go_wp2_with fail
          go_roundg (3 - (k + 1))
          case measure => have := hg.out; omega
          case rel => exact ⟨k + 1, b, cc, rfl, rfl, by go_num, by omega, HN2.out, HB6.out, rfl⟩
        · have hN0d : decide (0 ≤ N) = false := by simp; omega
          clear hc
          go_wp2_with fail
          go_roundg (3 - (k + 1))
          case measure => have := hg.out; omega
          case rel => exact ⟨k + 1, b, cc, rfl, rfl, by go_num, by omega, HN2.out, HB6.out, rfl⟩
    · obtain rfl : k = 3 := by omega
      have HP : Hid ((pickK (cstK toks m) 3).1 = b) := by show _ = _; rw [HFF.out, hp.out]
      clear hlt
      by_cases hb0 : 0 ≤ b
      · obtain ⟨i, hi, hbi, hci, hfi⟩ : ∃ i : Nat, i < 3 ∧ b = (i : Int) ∧ cc = f i ∧ 0 ≤ f i := by
          rcases hin with h | ⟨i, h1, h2, h3, h4⟩
          · omega
          · exact ⟨i, h1, h2, h3, h4⟩
        have hmay := HF.out.2 i hfi
        rw [← hbi] at hmay
        obtain ⟨hw, hT, hnt, hsep, hlit, hr, hsepr, hby, hlen⟩ := HH.out
        have hs := BkS.start hw hb.out
        obtain ⟨⟨A3, n3, c3, hw3, hA3⟩, hc3⟩ := hs
        have hWK := wkind_any wr b0 g n3 c3 A3 _ hw3 b At nt ct toks ((hT.below hb.out).more hb.out.size) hnt (fun h0 => sep_on hA3 (fun ad e => by
          obtain ⟨ad', e', hb', _⟩ := hT.2 h0
          rw [e] at e'; injection e' with e'; rw [e']; exact hb') (hsep h0)) hlit C m cr raw ((hr.below hb.out).more hb.out.size) (fun h0 => sep_on hA3 (fun ad e => by
          obtain ⟨ad', e', hb', _⟩ := hr.2 h0
          rw [e] at e'; injection e' with e'; rw [e']; exact hb') (hsepr h0)) hby last hmay hlen
        have HWK := Lib.hid hWK
        have HC3 := Lib.hid (⟨hA3, hc3⟩ : _ ∧ _)
        clear hw hT hnt hsep hlit hr hsepr hby hlen hw3 hA3 hc3 hWK hi hbi hci hfi hmay hin hp
        go_wp2_with fail
        refine HWK.out.mono ?_
        rintro e w5 ⟨rfl, h5⟩
        have H5 := Lib.hid (BkS.step HC3.out.2 HC3.out.1 h5)
        clear h5
        go_wp2_with fail
        go_ret
        exact ⟨by rw [HP.out]; rfl, .inr ⟨by rw [HP.out]; exact hb0, by rw [HP.out]; exact H5.out⟩⟩
      · have hbm : b = -1 := by omega
        subst hbm
        clear hin hp
        go_wp2_with fail
        go_ret
        exact ⟨by rw [HP.out]; rfl, .inl ⟨HP.out, hb.out⟩⟩
end Go.Proofs.Ytlgkiookobedcaa
namespace Go.Proofs.Ytlgkiookobedcaa
open Go.RowKit
set_option linter.unusedVariables false
theorem expand_sound {l : List Tok} : ∀ {out : List Int}, (expand out l).1 = 0 → ∀ t ∈ l, soundT t := by
  induction l with
  | nil => intro out _ t ht; simp at ht
  | cons k l ih =>
    intro out h t ht
    rw [expand_cons] at h
    by_cases h0 : (step out k).1 = 0
    · rw [if_pos h0] at h
      rcases List.mem_cons.1 ht with rfl | ht
      · unfold step at h0
        by_cases hs : soundT t
        · exact hs
        · rw [if_pos hs] at h0; simp at h0
      · exact ih h t ht
    · rw [if_neg h0] at h; exact absurd h h0
structure LwS (w w2 wx : World) (b0 g : Nat) (L : List Int) : Prop where
  bk : BkS w2 wx b0 g none L
  lo : w.heap.size ≤ w2.heap.size
  bel : Below w.heap.size w w2
  glo : w.heap.size ≤ g
section
variable {w w2 wx w' : World} {b0 g : Nat} {L L' : List Int}
theorem LwS.below (h : LwS w w2 wx b0 g L) : Below w.heap.size w wx := h.bel.trans (h.bk.chg.below (fun k hk => by
  rcases hk with hk | hk
  · rw [hk]; exact h.glo
  · simp [blkOf] at hk) h.lo)
theorem LwS.keeps (h : LwS w w2 wx b0 g L) (hb : Below wx.heap.size wx w') : LwS w w2 w' b0 g L := ⟨h.bk.keeps hb, h.lo, h.bel, h.glo⟩
theorem LwS.get (h : LwS w w2 wx b0 g L) : ∃ A n c, Wtr wx b0 g A n c L ∧ (∀ k, foot A g k → w.heap.size ≤ k) ∧ ∀ (W : World) (L' : List Int), BkS wx W b0 g A L' → LwS w w2 W b0 g L' := by
  obtain ⟨⟨A, n, c, h1, h2⟩, h3⟩ := h.bk
  refine ⟨A, n, c, h1, fun k hk => ?_, fun W L' hb => ⟨BkS.step h3 h2 hb, h.lo, h.bel, h.glo⟩⟩
  rcases hk with hk | hk
  · rw [hk]; exact h.glo
  · rcases h2 k hk with h4 | h4
    · simp [blkOf] at h4
    · exact Nat.le_trans h.lo h4
end
theorem BkS.of {w w' : World} {b0 g : Nat} {A : Option Addr} {L : List Int} {A' : Option Addr} {n' c' : Nat} (hw : Wtr w' b0 g A' n' c' L) (hc : Chg w w' (foot A g)) (hA : ∀ k, blkOf A' = some k → blkOf A = some k ∨ w.heap.size ≤ k) : BkS w w' b0 g A L := ⟨⟨A', n', c', hw, hA⟩, hc⟩
end Go.Proofs.Ytlgkiookobedcaa
namespace Go.Proofs.Ytlgkiookobedcaa
open Go.RowKit
set_option linter.unusedVariables false
structure DSt where
  lev : Int
  f : FSt
  L : List Int
  raw : List Int
  toks : List Tok
def lenT (t : Tok) : Nat := (max t.len 1).toNat
def lensT (l : List Tok) : Nat := (l.map lenT).sum
def fullGo (n i : Nat) : List Tok → Nat
  | [] => 0
  | t :: l => if 16384 ≤ n + lenT t then i + 1 else fullGo (n + lenT t) (i + 1) l
def fullE (l : List Tok) : Nat := fullGo 0 0 l
def layK (lev : Int) (l : List Tok) : Int := if lev ≤ 0 then 0 else (pickK (cstK l (lensT l)) 3).1
def layD (d : DSt) (count : Nat) (last : Bool) : DSt :=
  { d with
    L := outB (layK d.lev (d.toks.take count)) (if d.lev ≤ 0 then [] else d.toks.take count) (d.raw.take (lensT (d.toks.take count))) last d.L
    raw := d.raw.drop (lensT (d.toks.take count))
    toks := d.toks.drop count }
def tokF (e : Eff) (left : Nat) : Nat → FSt → List Tok × FSt
  | 0, st => ([], st)
  | k + 1, st => if left < st.D.length - st.at_ then ((nextF e st).1 :: (tokF e left k (nextF e st).2).1, (tokF e left k (nextF e st).2).2) else ([], st)
theorem tokF_run {e : Eff} {left : Nat} : ∀ (k : Nat) {st st' : FSt} {l : List Tok}, Run e left st l st' → st'.D.length - st'.at_ ≤ left → st.Ok st.at_ → st.D.length - st.at_ ≤ k → tokF e left k st = (l, st')
  | 0, st, st', l, hr, he, hok, hk => by
    rcases hr.inv with ⟨rfl, rfl⟩ | ⟨l2, h, _⟩
    · rfl
    · omega
  | k + 1, st, st', l, hr, he, hok, hk => by
    unfold tokF
    rcases hr.inv with ⟨rfl, rfl⟩ | ⟨l2, h, rfl, h2⟩
    · rw [if_neg (by omega)]
    · rw [if_pos h]
      obtain ⟨N, n1, n2, n3, n4, n5, n6, n7⟩ := next_ok (e := e) hok (by omega)
      rw [tokF_run k h2 he (by rw [n6]; exact n4) (by rw [n5, n6]; omega)]
def toksD (left : Nat) (d : DSt) : DSt :=
  { d with f := (tokF (effOf d.lev) left (d.f.D.length - d.f.at_) d.f).2, toks := d.toks ++ (tokF (effOf d.lev) left (d.f.D.length - d.f.at_) d.f).1 }
def drainD : Nat → DSt → DSt
  | 0, d => d
  | k + 1, d => if 0 < fullE d.toks then drainD k (layD d (fullE d.toks) false) else d
def drainL : Nat → DSt → DSt
  | 0, d => d
  | k + 1, d => if 0 < fullE d.toks ∧ fullE d.toks < d.toks.length then drainL k (layD d (fullE d.toks) false) else d
def chunkD (d : DSt) (x : List Int) : DSt :=
  let d1 := toksD 261 { d with raw := d.raw ++ x, f := writeF d.f x }
  drainD d1.toks.length d1
def writeD : Nat → DSt → List Int → DSt
  | 0, d, _ => d
  | k + 1, d, b => if 0 < b.length then writeD k (chunkD d (b.take (min b.length 16384))) (b.drop (min b.length 16384)) else d
def restD (d : DSt) : DSt :=
  let d1 := toksD 0 d
  drainL d1.toks.length d1
def flushD (d : DSt) : DSt :=
  let d1 := restD d
  let d2 := if 0 < d1.toks.length then layD d1 d1.toks.length false else d1
  { d2 with L := outB 0 [] [] false d2.L }
def closeD (d : DSt) : DSt :=
  let d1 := restD d
  let d2 := layD d1 d1.toks.length true
  { d2 with L := evn d2.L }
def newD (lev : Int) : DSt := ⟨lev, newF, [], [], []⟩
theorem fullGo_bd : ∀ (l : List Tok) (n i : Nat), fullGo n i l ≤ i + l.length ∧ (0 < fullGo n i l → i < fullGo n i l)
  | [], n, i => ⟨by simp [fullGo], fun h => by simp [fullGo] at h⟩
  | t :: l, n, i => by
    unfold fullGo
    rw [List.length_cons]
    split
    · omega
    · have := fullGo_bd l (n + lenT t) (i + 1); omega
theorem lenT_bd {t : Tok} (h : soundT t) : 1 ≤ lenT t ∧ lenT t ≤ 258 := by
  unfold lenT
  unfold soundT at h
  split at h
  · rename_i h0; rw [h0]; decide
  · omega
theorem fullGo_sum : ∀ (l : List Tok) (n i : Nat), (∀ t ∈ l, soundT t) → n < 16384 → 0 < fullGo n i l → 16384 ≤ n + lensT (l.take (fullGo n i l - i)) ∧ n + lensT (l.take (fullGo n i l - i)) ≤ 16384 + 257
  | [], n, i, _, _, h => by simp [fullGo] at h
  | t :: l, n, i, hs, hn, h => by
    have ht := lenT_bd (hs t List.mem_cons_self)
    unfold fullGo at h ⊢
    by_cases h1 : 16384 ≤ n + lenT t
    · rw [if_pos h1, show i + 1 - i = 1 by omega]
      have : lensT ((t :: l).take 1) = lenT t := by simp [lensT]
      omega
    · rw [if_neg h1] at h ⊢
      have ih := fullGo_sum l (n + lenT t) (i + 1) (fun u hu => hs u (List.mem_cons_of_mem _ hu)) (by omega) h
      have hb := (fullGo_bd l (n + lenT t) (i + 1)).2 h
      obtain ⟨m, hm⟩ : ∃ m, fullGo (n + lenT t) (i + 1) l = i + 1 + m := ⟨_, (Nat.add_sub_cancel' (by omega : i + 1 ≤ _)).symm⟩
      rw [hm] at ih ⊢
      rw [show i + 1 + m - (i + 1) = m by omega] at ih
      rw [show i + 1 + m - i = m + 1 by omega]
      have : lensT ((t :: l).take (m + 1)) = lenT t + lensT (l.take m) := by simp [lensT]
      omega
theorem fullGo_none : ∀ (l : List Tok) (n i : Nat), n < 16384 → fullGo n i l = 0 → n + lensT l < 16384
  | [], n, i, hn, _ => by simp [lensT]; exact hn
  | t :: l, n, i, hn, h => by
    unfold fullGo at h
    by_cases h1 : 16384 ≤ n + lenT t
    · rw [if_pos h1] at h; omega
    · rw [if_neg h1] at h
      have ih := fullGo_none l (n + lenT t) (i + 1) (by omega) h
      have : lensT (t :: l) = lenT t + lensT l := by simp [lensT]
      omega
theorem expand_lens : ∀ (l : List Tok) (out z : List Int), expand out l = (0, z) → z.length = out.length + lensT l
  | [], out, z, h => by
    have : (0, out) = ((0 : Int), z) := h
    injection this with _ h2
    rw [← h2]; simp [lensT]
  | t :: l, out, z, h => by
    rw [expand_cons] at h
    by_cases h0 : (step out t).1 = 0
    · rw [if_pos h0] at h
      have ih := expand_lens l _ z h
      have hs : (step out t).2.length = out.length + lenT t := by
        unfold step at h0 ⊢
        unfold lenT
        by_cases h1 : ¬ soundT t
        · rw [if_pos h1] at h0; simp at h0
        · rw [if_neg h1] at h0 ⊢
          by_cases h2 : 16777216 < (out.length : Int) + max t.len 1
          · rw [if_pos h2] at h0; simp at h0
          · rw [if_neg h2] at h0 ⊢
            by_cases h3 : t.len = 0
            · rw [if_pos h3, List.length_append, h3]; rfl
            · rw [if_neg h3] at h0 ⊢
              by_cases h4 : (out.length : Int) < t.dist
              · rw [if_pos h4] at h0; simp at h0
              · rw [if_neg h4, List.length_append, again_length]
                unfold soundT at h1
                rw [if_neg h3] at h1
                omega
      have : lensT (t :: l) = lenT t + lensT l := by simp [lensT]
      omega
    · rw [if_neg h0] at h
      rw [h] at h0; exact absurd rfl h0
theorem evn_app {P L : List Int} (h : P.length % 8 = 0) : evn (P ++ L) = P ++ evn L := by
  unfold evn; rw [List.length_append, List.append_assoc, show (8 - (P.length + L.length) % 8) % 8 = (8 - L.length % 8) % 8 by omega]
theorem hd3_app {P L : List Int} (kind : Int) (last : Bool) : hd3 kind last (P ++ L) = P ++ hd3 kind last L := by unfold hd3; simp [List.append_assoc]
theorem outB_app {P L : List Int} (h : P.length % 8 = 0) (kind : Int) (l : List Tok) (raw : List Int) (last : Bool) : outB kind l raw last (P ++ L) = P ++ outB kind l raw last L := by
  unfold outB
  split
  · rw [hd3_app]
    unfold stoB
    rw [evn_app h]
    simp [List.append_assoc]
  · split
    · rw [hd3_app, List.append_assoc]
    · rw [hd3_app]; simp [List.append_assoc]
structure DOk (X P : List Int) (d : DSt) (all kinds stops : List Int) (btoks pre : List Tok) : Prop where
  big : X.length ≤ 16777216
  by_ : ∀ x ∈ X, 0 ≤ x ∧ x < 256
  ev : P.length % 8 = 0
  fd : d.f.D = X
  fok : d.f.Ok d.f.at_
  rwx : all ++ d.raw = X
  prx : expand [] pre = (0, all)
  tok : expand [] (pre ++ d.toks) = (0, X.take d.f.at_)
  lit : ∀ t ∈ d.toks, 0 ≤ t.lit ∧ t.lit < 256
  rd : Reads 16777216 (P ++ d.L) all kinds stops btoks
  st0 : d.lev ≤ 0 → ∀ k ∈ kinds, k = 0
  kl : kinds.length = stops.length ∧ ∀ s ∈ stops, 0 ≤ s ∧ s ≤ 16777216
section
variable {X P : List Int} {d : DSt} {all kinds stops : List Int} {btoks pre : List Tok}
theorem DOk.toksExp (h : DOk X P d all kinds stops btoks pre) : expand all d.toks = (0, X.take d.f.at_) := by
  have h1 := h.tok
  rw [expand_append, h.prx, if_pos rfl] at h1
  exact h1
theorem DOk.lens (h : DOk X P d all kinds stops btoks pre) : all.length + lensT d.toks = d.f.at_ := by
  have := expand_lens _ _ _ h.toksExp
  rw [List.length_take, ← h.fd, Nat.min_eq_left h.fok.hi] at this
  omega
theorem DOk.sound (h : DOk X P d all kinds stops btoks pre) : ∀ t ∈ d.toks, soundT t := expand_sound (by rw [h.toksExp])
theorem lensT_ge : ∀ {l : List Tok}, (∀ t ∈ l, soundT t) → l.length ≤ lensT l
  | [], _ => by simp
  | t :: l, h => by
    have h1 := lenT_bd (h t List.mem_cons_self)
    have h2 := lensT_ge (l := l) fun u hu => h u (List.mem_cons_of_mem _ hu)
    have : lensT (t :: l) = lenT t + lensT l := by simp [lensT]
    rw [List.length_cons]; omega
theorem DOk.first (h : DOk X P d all kinds stops btoks pre) (count : Nat) : expand all (d.toks.take count) = (0, all ++ d.raw.take (lensT (d.toks.take count))) ∧ lensT (d.toks.take count) ≤ d.raw.length := by
  have h1 := h.toksExp
  rw [← List.take_append_drop count d.toks, expand_append] at h1
  by_cases h0 : (expand all (d.toks.take count)).1 = 0
  · rw [if_pos h0] at h1
    obtain ⟨z, hz⟩ := expand_ok (out := (expand all (d.toks.take count)).2) (l := d.toks.drop count) (by rw [h1])
    rw [h1] at hz
    have he : expand all (d.toks.take count) = (0, (expand all (d.toks.take count)).2) := by rw [← h0]
    have hl := expand_lens _ _ _ he
    obtain ⟨Y, hY⟩ : ∃ Y, (expand all (d.toks.take count)).2 = Y := ⟨_, rfl⟩
    rw [hY] at hz hl he
    replace hz : X.take d.f.at_ = Y ++ z := hz
    have hYX : Y = X.take Y.length := by
      have h5 : (X.take d.f.at_).take Y.length = Y := by rw [hz]; simp
      have : Y.length ≤ (X.take d.f.at_).length := by rw [hz, List.length_append]; omega
      rw [List.length_take] at this
      rw [List.take_take, Nat.min_eq_left (by omega)] at h5
      exact h5.symm
    have hXl : Y.length ≤ X.length := by
      have : Y.length ≤ (X.take d.f.at_).length := by rw [hz, List.length_append]; omega
      rw [List.length_take] at this; omega
    have hr := h.rwx
    have hn : lensT (d.toks.take count) ≤ d.raw.length := by
      have : X.length = all.length + d.raw.length := by rw [← hr, List.length_append]
      omega
    refine ⟨?_, hn⟩
    rw [he, hYX, hl, ← hr, List.take_append, List.take_of_length_le (by omega), Nat.add_sub_cancel_left]
  · rw [if_neg h0] at h1
    rw [h1] at h0; exact absurd rfl h0
theorem layK_ok {lev : Int} {l : List Tok} (hs : ∀ t ∈ l, soundT t) (hlit : ∀ t ∈ l, 0 ≤ t.lit ∧ t.lit < 256) (hn : lensT l ≤ 65535) :
    (lev ≤ 0 → layK lev l = 0) ∧ 0 ≤ layK lev l ∧ bkMay (layK lev l) (if lev ≤ 0 then [] else l) (lensT l) = true := by
  have hb0 : ∀ q : List Tok, bkMay 0 q (lensT l) = true := fun q => by unfold bkMay; rw [if_pos rfl]; exact decide_eq_true hn
  unfold layK
  by_cases h : lev ≤ 0
  · rw [if_pos h, if_pos h]
    exact ⟨fun _ => rfl, by omega, hb0 _⟩
  · rw [if_neg h, if_neg h]
    have hp := pickK_some (cstK l (lensT l)) 3 0 (by omega) (by
      unfold cstK
      rw [show ((0 : Nat) : Int) = 0 from rfl, if_pos (hb0 l)]
      unfold costB; rw [if_pos rfl]; omega)
    refine ⟨fun h2 => absurd h2 h, hp.1, ?_⟩
    rcases pickK_in (cstK l (lensT l)) 3 with h2 | ⟨i, _, h3, _, h4⟩
    · omega
    · rw [h3]; exact cst_may h4
theorem DOk.blk (h : DOk X P d all kinds stops btoks pre) (count : Nat) (hn : lensT (d.toks.take count) ≤ 65535) :
    bkMay (layK d.lev (d.toks.take count)) (if d.lev ≤ 0 then [] else d.toks.take count) (d.raw.take (lensT (d.toks.take count))).length = true ∧
    (∀ x ∈ d.raw.take (lensT (d.toks.take count)), 0 ≤ x ∧ x < 256) ∧
    (∀ t ∈ (if d.lev ≤ 0 then [] else d.toks.take count), 0 ≤ t.lit ∧ t.lit < 256) ∧
    (layK d.lev (d.toks.take count) ≠ 0 → (expand all (if d.lev ≤ 0 then [] else d.toks.take count)).1 = 0) ∧
    blkAll (layK d.lev (d.toks.take count)) (if d.lev ≤ 0 then [] else d.toks.take count) (d.raw.take (lensT (d.toks.take count))) all = all ++ d.raw.take (lensT (d.toks.take count)) ∧
    (all ++ d.raw.take (lensT (d.toks.take count))).length ≤ 16777216 := by
  obtain ⟨h1, h2⟩ := h.first count
  have hlit : ∀ t ∈ d.toks.take count, 0 ≤ t.lit ∧ t.lit < 256 := fun t ht => h.lit t (List.mem_of_mem_take ht)
  obtain ⟨k0, k1, k2⟩ := layK_ok (lev := d.lev) (fun t ht => h.sound t (List.mem_of_mem_take ht)) hlit hn
  have hrl : (d.raw.take (lensT (d.toks.take count))).length = lensT (d.toks.take count) := by rw [List.length_take]; omega
  have hrX : ∀ x ∈ d.raw, x ∈ X := fun x hx => by rw [← h.rwx]; exact List.mem_append_right _ hx
  refine ⟨by rw [hrl]; exact k2, fun x hx => h.by_ x (hrX x (List.mem_of_mem_take hx)), fun t ht => ?_, fun hk => ?_, ?_, ?_⟩
  · split at ht
    · simp at ht
    · exact hlit t ht
  · by_cases hl : d.lev ≤ 0
    · exact absurd (k0 hl) hk
    · rw [if_neg hl, h1]
  · unfold blkAll
    by_cases hk : layK d.lev (d.toks.take count) = 0
    · rw [if_pos hk]
    · rw [if_neg hk, if_neg (fun hl => hk (k0 hl)), h1]
  · have h5 : X.length = all.length + d.raw.length := by rw [← h.rwx, List.length_append]
    have := h.big
    rw [List.length_append, hrl]; omega
theorem DOk.lay (h : DOk X P d all kinds stops btoks pre) (count : Nat) (hn : lensT (d.toks.take count) ≤ 65535) :
    ∃ bt, DOk X P (layD d count false) (all ++ d.raw.take (lensT (d.toks.take count))) (kinds ++ [layK d.lev (d.toks.take count)]) (stops ++ [((all ++ d.raw.take (lensT (d.toks.take count))).length : Int)]) bt (pre ++ d.toks.take count) := by
  obtain ⟨b1, b2, b3, b4, b5, b6⟩ := h.blk count hn
  have hR := h.rd.next b1 b2 b3 b4 (by rw [b5]; exact b6)
  rw [b5, outB_app h.ev] at hR
  refine ⟨_, h.big, h.by_, h.ev, h.fd, h.fok, ?_, ?_, ?_, fun t ht => h.lit t (List.mem_of_mem_drop ht), hR, fun hl k hk => ?_, ?_⟩
  · show (all ++ _) ++ d.raw.drop _ = X
    rw [List.append_assoc, List.take_append_drop]; exact h.rwx
  · rw [expand_append, h.prx, if_pos rfl]; exact (h.first count).1
  · show expand [] ((pre ++ d.toks.take count) ++ d.toks.drop count) = _
    rw [List.append_assoc, List.take_append_drop]; exact h.tok
  · rcases List.mem_append.1 hk with hk | hk
    · exact h.st0 hl k hk
    · rw [List.mem_singleton.1 hk]; unfold layK; rw [if_pos (show d.lev ≤ 0 from hl)]
  · refine ⟨by rw [List.length_append, List.length_append, h.kl.1]; rfl, fun s hs => ?_⟩
    rcases List.mem_append.1 hs with hs | hs
    · exact h.kl.2 s hs
    · rw [List.mem_singleton.1 hs]; omega
theorem DOk.last (h : DOk X P d all kinds stops btoks pre) (count : Nat) (hn : lensT (d.toks.take count) ≤ 65535) :
    ∃ bt, Ends 16777216 (P ++ (layD d count true).L) (all ++ d.raw.take (lensT (d.toks.take count))) (kinds ++ [layK d.lev (d.toks.take count)]) (stops ++ [((all ++ d.raw.take (lensT (d.toks.take count))).length : Int)]) bt := by
  obtain ⟨b1, b2, b3, b4, b5, b6⟩ := h.blk count hn
  have hR := h.rd.fin b1 b2 b3 b4 (by rw [b5]; exact b6)
  rw [b5, outB_app h.ev] at hR
  exact ⟨_, hR⟩
theorem DOk.tokens (h : DOk X P d all kinds stops btoks pre) (left : Nat) {l : List Tok} {f : FSt} (hr : Run (effOf d.lev) left d.f l f) (hf : f.Ok f.at_) (hD : f.D = d.f.D) (hlit : ∀ t ∈ l, 0 ≤ t.lit ∧ t.lit < 256) :
    DOk X P { d with f := f, toks := d.toks ++ l } all kinds stops btoks pre := by
  refine ⟨h.big, h.by_, h.ev, hD.trans h.fd, hf, h.rwx, h.prx, ?_, fun t ht => ?_, h.rd, h.st0, h.kl⟩
  · have hx := run_expand hr h.fok (by rw [h.fd]; exact h.big) [] (pre ++ d.toks) (by rw [h.fd]; exact h.tok)
    rw [List.append_assoc, hD, h.fd] at hx
    exact hx
  · rcases List.mem_append.1 ht with ht | ht
    · exact h.lit t ht
    · exact hlit t ht
theorem DOk.grow (h : DOk X P d all kinds stops btoks pre) (x : List Int) (hx : (X ++ x).length ≤ 16777216) (hby : ∀ v ∈ x, 0 ≤ v ∧ v < 256) :
    DOk (X ++ x) P { d with raw := d.raw ++ x, f := writeF d.f x } all kinds stops btoks pre := by
  have hle : d.f.at_ ≤ X.length := by rw [← h.fd]; exact h.fok.hi
  refine ⟨hx, fun v hv => ?_, h.ev, ?_, h.fok.write x, ?_, h.prx, ?_, h.lit, h.rd, h.st0, h.kl⟩
  · rcases List.mem_append.1 hv with hv | hv
    · exact h.by_ v hv
    · exact hby v hv
  · show d.f.D ++ x = X ++ x
    rw [h.fd]
  · show all ++ (d.raw ++ x) = X ++ x
    rw [← List.append_assoc, h.rwx]
  · show _ = (0, (X ++ x).take d.f.at_)
    rw [List.take_append_of_le_length hle]; exact h.tok
theorem DOk.taken (h : DOk X P d all kinds stops btoks pre) {Q R : List Int} (hL : d.L = Q ++ R) (hQ : Q.length % 8 = 0) : DOk X (P ++ Q) { d with L := R } all kinds stops btoks pre := by
  refine ⟨h.big, h.by_, by rw [List.length_append]; have := h.ev; omega, h.fd, h.fok, h.rwx, h.prx, h.tok, h.lit, ?_, h.st0, h.kl⟩
  have := h.rd
  rw [hL] at this
  show Reads _ ((P ++ Q) ++ R) _ _ _ _
  rw [List.append_assoc]; exact this
theorem DOk.new (lev : Int) : DOk [] [] (newD lev) [] [] [] [] [] :=
  ⟨by simp, fun x hx => by simp at hx, rfl, rfl, Ok.new, rfl, rfl, rfl, fun t ht => by simp [newD] at ht, Reads.nil _, fun _ k hk => by simp at hk, rfl, fun s hs => by simp at hs⟩
end
end Go.Proofs.Ytlgkiookobedcaa
