/-
  Several texts in one (written by pack2.py): LimL, LimM, LimN, LimC.
-/
import Derived.Test.YtlgkiookobedcaaPk13
import Derived.Test.YtlgkiookobedcaaPk2
import Derived.Test.YtlgkiookobedcaaLimG
namespace Go.Proofs.Ytlgkiookobedcaa
open Go.RowKit
set_option linter.unusedVariables false
inductive All2 {α β : Type} (R : α → β → Prop) : List α → List β → Prop
  | nil : All2 R [] []
  | cons {a : α} {b : β} {xs : List α} {ys : List β} : R a b → All2 R xs ys → All2 R (a :: xs) (b :: ys)
section
variable {α β : Type} {R R' : α → β → Prop} {xs cs : List α} {ys ds : List β}
theorem All2.length (h : All2 R xs ys) : xs.length = ys.length := by
  induction h with
  | nil => rfl
  | cons _ _ ih => rw [List.length_cons, List.length_cons, ih]
theorem All2.mono (h : All2 R xs ys) (hR : ∀ a ∈ xs, ∀ b, R a b → R' a b) : All2 R' xs ys := by
  induction h with
  | nil => exact .nil
  | cons h1 _ ih => exact .cons (hR _ List.mem_cons_self _ h1) (ih fun a ha => hR a (List.mem_cons_of_mem _ ha))
theorem All2.app (h : All2 R xs ys) (h' : All2 R cs ds) : All2 R (xs ++ cs) (ys ++ ds) := by
  induction h with
  | nil => exact h'
  | cons h1 _ ih => exact .cons h1 ih
theorem All2.one {a : α} {b : β} (h : R a b) : All2 R [a] [b] := .cons h .nil
theorem All2.perm (hp : cs.Perm xs) (h : All2 R xs ys) : ∃ ds, ds.Perm ys ∧ All2 R cs ds := by
  induction hp generalizing ys with
  | nil => exact ⟨ys, List.Perm.refl _, h⟩
  | cons x _ ih =>
    cases h with
    | cons h1 h2 =>
      obtain ⟨ds, hd, hh⟩ := ih h2
      exact ⟨_ :: ds, List.Perm.cons _ hd, .cons h1 hh⟩
  | swap x y l =>
    cases h with
    | cons h1 h2 => cases h2 with
      | cons h3 h4 => exact ⟨_, List.Perm.swap _ _ _, .cons h3 (.cons h1 h4)⟩
  | trans _ _ ih1 ih2 =>
    obtain ⟨d1, p1, r1⟩ := ih2 h
    obtain ⟨d2, p2, r2⟩ := ih1 r1
    exact ⟨d2, p2.trans p1, r2⟩
theorem All2.mem (h : All2 R xs ys) : ∀ b ∈ ys, ∃ a ∈ xs, R a b := by
  induction h with
  | nil => intro b hb; simp at hb
  | cons h1 _ ih =>
    intro b hb
    rcases List.mem_cons.1 hb with rfl | hb
    · exact ⟨_, List.mem_cons_self, h1⟩
    · obtain ⟨a, ha, hr⟩ := ih b hb
      exact ⟨a, List.mem_cons_of_mem _ ha, hr⟩
theorem All2.mem' (h : All2 R xs ys) : ∀ a ∈ xs, ∃ b ∈ ys, R a b := by
  induction h with
  | nil => intro b hb; simp at hb
  | cons h1 _ ih =>
    intro b hb
    rcases List.mem_cons.1 hb with rfl | hb
    · exact ⟨_, List.mem_cons_self, h1⟩
    · obtain ⟨a, ha, hr⟩ := ih b hb
      exact ⟨a, List.mem_cons_of_mem _ ha, hr⟩
end
def MeanE (w : World) (B : Nat) (X : Nat → Prop) (e : El) (p : Pk) : Prop := e.1 = p.w ∧ RdI .i64 w B e.2.1 e.2.2.1 p.l ∧ (0 < e.2.2.1 → ∀ g, blkOf e.2.1 = some g → ¬ X g)
def PckR (w : World) (B : Nat) (X : Nat → Prop) (A : Option Addr) (n : Nat) (L : List Pk) : Prop := ∃ D, RdP w B A n D ∧ All2 (MeanE w B X) D L
theorem PckR.below {w w' : World} {B n : Nat} {X : Nat → Prop} {A : Option Addr} {L : List Pk} (h : PckR w B X A n L) (hb : Below B w w') : PckR w' B X A n L := by
  obtain ⟨D, h1, h2⟩ := h
  exact ⟨D, h1.below hb, h2.mono fun e _ p hm => ⟨hm.1, hm.2.1.below hb, hm.2.2⟩⟩
theorem PckR.more {w : World} {B B' n : Nat} {X : Nat → Prop} {A : Option Addr} {L : List Pk} (h : PckR w B X A n L) (hB : B ≤ B') : PckR w B' X A n L := by
  obtain ⟨D, h1, h2⟩ := h
  exact ⟨D, h1.more hB, h2.mono fun e _ p hm => ⟨hm.1, hm.2.1.more hB, hm.2.2⟩⟩
theorem Own.ar {w : World} {b0 : Nat} {e : TypeId} {sz n c g : Nat} {f : Nat → Value} (h : Own w b0 e sz (some ⟨g, 0, none⟩) n c f) : Ar w g (n * sz) f := by
  rcases h with ⟨h1, _⟩ | ⟨g', cur, r1, r2, r3, r4, r5, r6, r7⟩
  · cases h1
  · injection r1 with r1; injection r1 with r1
    subst r1
    exact ⟨cur, e, (0, 0), r3, .inr rfl, by rw [r6]; exact Nat.mul_le_mul_right _ r4, r7⟩
theorem sortStable_any (w w0 : World) (g n c : Nat) (D0 : List El) (h : Dt w0 g n D0 w) (hn : n ≤ 1000) (hsm : Sm D0) (hasc : Asc D0) :
    Calls Try.prog 88 #[.slice (some ⟨g, 0, none⟩) n c, cmpF] w (StPost w0 g n D0) := by
  have HC := Lib.hid (stable_any w w0 g n c D0 h hn hsm hasc)
  clear h hsm hasc
  unfold cmpF at HC ⊢
  go_enter Try.func88, Try.ntmps88
  go_wp2_with fail
  refine HC.out.mono ?_
  rintro e w5 ⟨D, rfl, h⟩
  go_wp2_with fail
  go_end0
  exact ⟨D, rfl, h⟩
theorem sortStable_nil (w : World) (F : Value) :
    Calls Try.prog 88 #[.slice none 0 0, F] w fun e w' => e = .returned (.tuple #[]) ∧ w = w' := by
  have HC := Lib.hid (stable_nil w F)
  go_enter Try.func88, Try.ntmps88
  go_wp2_with fail
  refine HC.out.mono ?_
  rintro e w5 ⟨rfl, rfl⟩
  go_wp2_with fail
  go_end0
  exact ⟨rfl, rfl⟩
theorem RdP.litg {w : World} {g : Nat} (hg : g = w.heap.size) (a : Int) (A : Option Addr) (n c : Nat) (t : TypeId) : RdP (w.alloc (.cells #[.int .i64 a, .slice A n c] t)) (g + 1) (some ⟨g, 0, none⟩) 1 [(a, A, n, c)] := by
  subst hg
  exact RdP.lit w (a, A, n, c) t
theorem MeanE.chg {w w' : World} {X X' S : Nat → Prop} {e : El} {p : Pk} (h : MeanE w w.heap.size X e p) (hc : Chg w w' S) (hS : ∀ g, S g → X g) (hX : ∀ g, g < w.heap.size → X' g → X g) : MeanE w' w'.heap.size X' e p := by
  refine ⟨h.1, (hc.rdI h.2.1 (Nat.le_refl _) (fun h0 ad e1 hs => h.2.2 h0 ad.block (by rw [e1]; rfl) (hS _ hs))).more hc.size, fun h0 g hg hx => ?_⟩
  obtain ⟨ad, e1, hlt, -⟩ := h.2.1.at_ (i := 0) h0
  rw [e1] at hg
  have hg' : ad.block = g := by simpa [blkOf] using hg
  exact h.2.2 h0 g (by rw [e1, ← hg']; rfl) (hX g (by omega) hx)
theorem perm_leafs {f : Int → Int} {L : List Pk} {S : List Int} (h : L.Perm (leafs f S)) : ∃ S', S'.Perm S ∧ L = leafs f S' := by
  refine ⟨L.map fun p => p.l.headD 0, ?_, ?_⟩
  · have := h.map (fun p : Pk => p.l.headD 0)
    refine this.trans ?_
    unfold leafs
    rw [List.map_map]
    have e : ((fun p : Pk => p.l.headD 0) ∘ fun s => (⟨f s, [s]⟩ : Pk)) = id := by funext s; rfl
    rw [e, List.map_id]
  · unfold leafs
    rw [List.map_map]
    conv => lhs; rw [← List.map_id L]
    refine List.map_congr_left fun p hp => ?_
    obtain ⟨s, hs, h1, h2⟩ := leafs_mem p (h.mem_iff.1 hp)
    obtain ⟨pw, pl⟩ := p
    simp only at h1 h2
    subst h1 h2
    rfl
def posI (f : List Int) : Nat → List Int
  | 0 => []
  | k + 1 => posI f k ++ if 0 < ix f k then [(k : Int)] else []
def fqI (f : List Int) (s : Int) : Int := ix f s.toNat
section
variable {α β : Type} {R R' : α → β → Prop} {xs : List α} {ys : List β}
theorem All2.and (h : All2 R xs ys) (h' : All2 R' xs ys) : All2 (fun a b => R a b ∧ R' a b) xs ys := by
  induction h with
  | nil => exact .nil
  | cons h1 _ ih => cases h' with
    | cons h2 h3 => exact .cons ⟨h1, h2⟩ (ih h3)
theorem All2.flip (h : All2 R xs ys) : All2 (fun b a => R a b) ys xs := by
  induction h with
  | nil => exact .nil
  | cons h1 _ ih => exact .cons h1 ih
theorem All2.pw {Q : α → α → Prop} {Q' : β → β → Prop} (h : All2 R xs ys) (hx : xs.Pairwise Q) (H : ∀ a ∈ xs, ∀ a' ∈ xs, ∀ b ∈ ys, ∀ b' ∈ ys, R a b → R a' b' → Q a a' → Q' b b') : ys.Pairwise Q' := by
  induction h with
  | nil => exact List.Pairwise.nil
  | @cons a b xs ys h1 h2 ih =>
    obtain ⟨s1, s2⟩ := List.pairwise_cons.1 hx
    refine List.pairwise_cons.2 ⟨fun q hq => ?_, ih s2 fun a ha a' ha' b hb b' hb' => H a (List.mem_cons_of_mem _ ha) a' (List.mem_cons_of_mem _ ha') b (List.mem_cons_of_mem _ hb) b' (List.mem_cons_of_mem _ hb')⟩
    obtain ⟨e, he, hm⟩ := h2.mem q hq
    exact H a List.mem_cons_self e (List.mem_cons_of_mem _ he) b List.mem_cons_self q (List.mem_cons_of_mem _ hq) h1 hm (s1 e he)
end
theorem pos_lt {f : List Int} : ∀ k : Nat, ∀ s ∈ posI f k, 0 ≤ s ∧ s < (k : Int)
  | 0, s, h => by simp [posI] at h
  | k + 1, s, h => by
    rw [posI] at h
    rcases List.mem_append.1 h with h | h
    · have := pos_lt k s h; omega
    · split at h
      · have := List.mem_singleton.1 h; omega
      · simp at h
theorem pos_asc {f : List Int} : ∀ k : Nat, (posI f k).Pairwise (· < ·)
  | 0 => List.Pairwise.nil
  | k + 1 => by
    rw [posI]
    refine List.pairwise_append.2 ⟨pos_asc k, ?_, fun s hs t ht => ?_⟩
    · split
      · exact List.pairwise_singleton _ _
      · exact List.Pairwise.nil
    · split at ht
      · rw [List.mem_singleton.1 ht]; exact (pos_lt k s hs).2
      · simp at ht
def NumE (N : Int → Nat) (e : El) (p : Pk) : Prop := ps e = N (p.l.headD 0)
def LvN (b : Nat) (f : List Int) (i : Nat) (D : List El) : Prop :=
  ∃ N : Int → Nat, All2 (NumE N) D (leafs (fqI f) (posI f i)) ∧ (∀ s ∈ posI f i, ∀ t ∈ posI f i, s < t → N s < N t) ∧ (∀ s ∈ posI f i, N s < b)
theorem LvN.mono {b b' : Nat} {f : List Int} {i : Nat} {D : List El} (h : LvN b f i D) (hb : b ≤ b') : LvN b' f i D := by
  obtain ⟨N, h1, h2, h3⟩ := h
  exact ⟨N, h1, h2, fun s hs => Nat.lt_of_lt_of_le (h3 s hs) hb⟩
theorem leafs_num {N N' : Int → Nat} {g : Int → Int} : ∀ {S : List Int} {D : List El}, (∀ s ∈ S, N' s = N s) → All2 (NumE N) D (leafs g S) → All2 (NumE N') D (leafs g S)
  | [], D, _, h => by cases h; exact .nil
  | s :: S, D, hs, h => by
    cases h with
    | cons h1 h2 => exact .cons (by show _ = N' s; rw [hs s List.mem_cons_self]; exact h1) (leafs_num (fun t ht => hs t (List.mem_cons_of_mem _ ht)) h2)
theorem LvN.push {b b' : Nat} {f : List Int} {i : Nat} {D : List El} {v : Int} (h : LvN b f i D) (hv : ix f i = v) (hp : 0 < v) (hb : b < b') : LvN b' f (i + 1) (D ++ [(v, some ⟨b, 0, none⟩, 1, 1)]) := by
  obtain ⟨N, h1, h2, h3⟩ := h
  have hps : posI f (i + 1) = posI f i ++ [(i : Int)] := by rw [posI, hv, if_pos hp]
  refine ⟨fun s => if s = (i : Int) then b else N s, ?_, fun s hs t ht hst => ?_, fun s hs => ?_⟩
  · rw [hps]
    unfold leafs at h1 ⊢
    rw [List.map_append]
    refine All2.app (leafs_num (fun s hs => ?_) h1) (All2.one ?_)
    · have := pos_lt i s hs
      exact if_neg (by omega)
    · show b = if (i : Int) = (i : Int) then b else _
      rw [if_pos rfl]
  · rw [hps] at hs ht
    have hlt : ∀ s, s ∈ posI f i → ¬ s = (i : Int) := fun s hs => by have := pos_lt i s hs; omega
    dsimp only
    rcases List.mem_append.1 hs with hs | hs <;> rcases List.mem_append.1 ht with ht | ht
    · rw [if_neg (hlt s hs), if_neg (hlt t ht)]; exact h2 s hs t ht hst
    · rw [if_neg (hlt s hs), if_pos (List.mem_singleton.1 ht)]; exact h3 s hs
    · have e1 := List.mem_singleton.1 hs
      have := pos_lt i t ht
      omega
    · have e1 := List.mem_singleton.1 hs
      have e2 := List.mem_singleton.1 ht
      omega
  · dsimp only
    rw [hps] at hs
    rcases List.mem_append.1 hs with hs | hs
    · rw [if_neg (by have := pos_lt i s hs; omega)]; have := h3 s hs; omega
    · rw [if_pos (List.mem_singleton.1 hs)]; exact hb
theorem leafs_pw {g : Int → Int} {S : List Int} {Q : Int → Int → Prop} {Q' : Pk → Pk → Prop} (h : S.Pairwise Q) (H : ∀ s t, Q s t → Q' ⟨g s, [s]⟩ ⟨g t, [t]⟩) : (leafs g S).Pairwise Q' := by
  unfold leafs
  rw [List.pairwise_map]
  exact h.imp fun hst => H _ _ hst
theorem LvN.asc {b : Nat} {f : List Int} {i : Nat} {D : List El} (h : LvN b f i D) : Asc D := by
  obtain ⟨N, h1, h2, h3⟩ := h
  refine h1.flip.pw (Q := fun p q => p.l.headD 0 < q.l.headD 0) (leafs_pw (pos_asc i) fun s t hst => hst) ?_
  intro p hp q hq e he e' he' r r' hpq
  have r1 : ps e = N (p.l.headD 0) := r
  have r2 : ps e' = N (q.l.headD 0) := r'
  obtain ⟨s, hs, e1, e2⟩ := leafs_mem p hp
  obtain ⟨t, ht, e3, e4⟩ := leafs_mem q hq
  rw [r1, r2, e2, e4]
  rw [e2, e4] at hpq
  exact Nat.le_of_lt (h2 s hs t ht hpq)
def StabS (f : List Int) (S : List Int) : Prop := S.Pairwise fun s t => fqI f s < fqI f t ∨ (fqI f s = fqI f t ∧ s ≤ t)
theorem StabS.le {f S : List Int} (h : StabS f S) : S.Pairwise fun s t => fqI f s ≤ fqI f t := h.imp fun h => by rcases h with h | h <;> omega
def LvR (w : World) (f : List Int) (m : Nat) (k : Nat) (v3 v8 : Value) (wr : World) : Prop :=
  ∃ (i q c : Nat) (A : Option Addr) (D : List El), v3 = .slice A q c ∧ v8 = .int .i64 i ∧ i ≤ m ∧ OwnP wr w.heap.size A q c D ∧ Below w.heap.size w wr ∧ Hid (All2 (MeanE wr wr.heap.size fun g => blkOf A = some g ∨ g < w.heap.size) D (leafs (fqI f) (posI f i))) ∧ q ≤ i ∧ Hid (k = m - i) ∧ Hid (LvN wr.heap.size f i D)
theorem lv_push {w wr w4 : World} {f : List Int} {i q c : Nat} {A A4 : Option Addr} {D : List El} {v : Int} (ho : OwnP wr w.heap.size A q c D) (hA : All2 (MeanE wr wr.heap.size fun g => blkOf A = some g ∨ g < w.heap.size) D (leafs (fqI f) (posI f i))) (hws : w.heap.size ≤ wr.heap.size) (hv : ix f i = v) (hp : 0 < v)
    (hg : ((wr.alloc (.cells #[.int .i64 (i : Nat)] 3)).alloc (.cells #[.int .i64 v, .slice (some ⟨wr.heap.size, 0, none⟩) 1 1] 129)).grownBy w4 (blkOf A)) (hat : blkOf A4 = blkOf A ∨ blkOf A4 = some ((wr.alloc (.cells #[.int .i64 (i : Nat)] 3)).alloc (.cells #[.int .i64 v, .slice (some ⟨wr.heap.size, 0, none⟩) 1 1] 129)).heap.size) :
    All2 (MeanE w4 w4.heap.size fun g => blkOf A4 = some g ∨ g < w.heap.size) (D ++ [(v, some ⟨wr.heap.size, 0, none⟩, 1, 1)]) (leafs (fqI f) (posI f (i + 1))) := by
  have hlt : ∀ g, blkOf A = some g → g < wr.heap.size := fun g hg => (ho.2.lt hg).2
  have hc1 : Chg (wr.alloc (.cells #[.int .i64 (i : Nat)] 3)) w4 (fun g => blkOf A = some g) := ((Chg.refl _ _).alloc _).grown hg (fun k hk => .inl hk)
  have hc0 : Chg wr w4 (fun g => blkOf A = some g) := (((Chg.refl _ _).alloc _).alloc _).grown hg (fun k hk => .inl hk)
  rw [show posI f (i + 1) = posI f i ++ [(i : Int)] by rw [posI, hv, if_pos hp]]
  unfold leafs at hA ⊢
  rw [List.map_append]
  refine (hA.mono fun e _ p hm => hm.chg hc0 (fun g hg => .inl hg) (fun g hg hx => ?_)).app (All2.one ?_)
  · rcases hx with hx | hx
    · rcases hat with e | e
      · left; rw [← e]; exact hx
      · rw [e] at hx; injection hx with hx; simp at hx; omega
    · exact .inr hx
  · refine ⟨?_, ?_, fun _ g hgb hx => ?_⟩
    · show v = fqI f i
      unfold fqI
      rw [Int.toNat_natCast, hv]
    · have h1 := RdI.lit .i64 wr [(i : Int)] 3
      exact (hc1.rdI h1 (by simp) (fun _ ad e1 hs => by injection e1 with e1; subst e1; exact absurd (hlt _ hs) (Nat.lt_irrefl _))).more (by have := hc1.size; simp at this; omega)
    · have hgw : wr.heap.size = g := by simpa [blkOf] using hgb
      rcases hx with hx | hx
      · rcases hat with e | e
        · rw [e] at hx; have := hlt _ hx; omega
        · rw [e] at hx; injection hx with hx; simp at hx; omega
      · omega
def LvPost (w : World) (f : List Int) (m : Nat) (e : Ending) (w' : World) : Prop :=
  ∃ A q c S, e = .returned (.slice A q c) ∧ Below w.heap.size w w' ∧ PckR w' w'.heap.size (fun g => g < w.heap.size) A q (leafs (fqI f) S) ∧ ((A = none ∧ q = 0) ∨ ∃ g, A = some ⟨g, 0, none⟩ ∧ w.heap.size ≤ g ∧ g < w'.heap.size) ∧ S.Perm (posI f m) ∧ StabS f S ∧ q ≤ c
set_option maxRecDepth 100000 in
set_option maxHeartbeats 4000000 in
theorem leaves_any (w : World) (C : Option Addr) (m d : Nat) (f : List Int) (hr : RdI .i64 w w.heap.size C m f) (hm : m ≤ 1000) (hf : ∀ i, i < m → 0 ≤ ix f i ∧ ix f i ≤ 1048576) :
    Calls Try.prog 81 #[.slice C m d] w (LvPost w f m) := by
  obtain ⟨i0, hi, hz0, hz1, hz2⟩ := info_parts pck_info
  have Hi := Lib.hid hi
  have Hz0 := Lib.hid hz0
  have Hz1 := Lib.hid hz1
  have Hz2 := Lib.hid hz2
  have hmI : (0 : Int) ≤ m ∧ (m : Int) ≤ 1000 := by omega
  have HF := Lib.hid hf
  have HM := Lib.hid hm
  clear hi hz0 hz1 hz2 hf hm
  go_enter Try.func81, Try.ntmps81
  go_wp2_with fail
  go_loopg [3, 8] m (LvR w f m)
  case atStart => exact ⟨0, 0, 0, none, [], rfl, rfl, Nat.zero_le _, OwnP.nil_, Below.refl _ _, .nil, Nat.le_refl _, rfl, ⟨fun _ => 0, .nil, fun s hs => by simp [posI] at hs, fun s hs => by simp [posI] at hs⟩⟩
  case round =>
    obtain ⟨i, q, c, A, D, rfl, rfl, him, ho, hb, hA, hq, hk, hN⟩ := hrel
    by_cases hlt : i < m
    · have hltI : (i : Int) < (m : Int) ∧ (0 : Int) ≤ i := by omega
      obtain ⟨v, hv⟩ : ∃ v, ix f i = v := ⟨_, rfl⟩
      obtain ⟨ad, rfl, hadb, hcv⟩ := hr.at_ (i := i) hlt
      rw [hv] at hcv
      have hcv2 : wr.cell? (ad.add i) = some (.int .i64 v) := (hb.cell (p := ad.add i) (by rw [addr_block]; exact hadb)).trans hcv
      have hvb := HF.out i hlt
      rw [hv] at hvb
      have HV := Lib.hid (⟨hv, hlt⟩ : _ ∧ _)
      clear hcv hv hlt
      by_cases hp : 0 < v
      · have ho2 := (ho.alloc (.cells #[.int .i64 (i : Nat)] 3)).alloc (.cells #[.int .i64 v, .slice (some ⟨wr.heap.size, 0, none⟩) 1 1] 129)
        have hlit := RdP.litg (w := wr.alloc (.cells #[.int .i64 (i : Nat)] 3)) (g := wr.heap.size + 1) (by simp) v (some ⟨wr.heap.size, 0, none⟩) 1 1 129
        have hb2 : Below w.heap.size w ((wr.alloc (.cells #[.int .i64 (i : Nat)] 3)).alloc (.cells #[.int .i64 v, .slice (some ⟨wr.heap.size, 0, none⟩) 1 1] 129)) := (hb.alloc hb.size _).alloc (Nat.le_trans hb.size (by simp)) _
        have hq1 : q + 1 ≤ 1000000000000 := by have := HM.out; omega
        go_wp2_with (at_builtin; (refine wpList_appP w.heap.size i0 rfl (.tmp 15) (.tmp 20) rfl Hi.out Hz0.out Hz1.out Hz2.out rfl ho2 rfl hlit hq1 hb2.size ?_); intro A4 d4 w4 hown4 hg4 hat4)
        go_roundg (m - (i + 1))
        case measure => have := hk.out; have := HV.out.2; omega
        case rel => exact ⟨i + 1, q + 1, d4, A4, _, rfl, by go_num, HV.out.2, hown4, hb2.grown hg4 hb2.size (fun k hk => (ho.2.lt hk).1), lv_push ho hA.out hb.size HV.out.1 hp hg4 hat4, by omega, rfl, hN.out.push HV.out.1 hp (by have h1 := hg4.size; simp at h1; omega)⟩
      · have hps : posI f (i + 1) = posI f i := by rw [posI, if_neg (by rw [HV.out.1]; exact hp), List.append_nil]
        have HPS := Lib.hid hps
        clear hps
        go_wp2_with fail
        go_roundg (m - (i + 1))
        case measure => have := hk.out; have := HV.out.2; omega
        case rel => exact ⟨i + 1, q, c, A, D, rfl, by go_num, HV.out.2, ho, hb, by show All2 _ _ _; rw [HPS.out]; exact hA.out, by omega, rfl, by have h1 := hN.out; unfold LvN at h1 ⊢; rw [HPS.out]; exact h1⟩
    · obtain rfl : i = m := by omega
      have hltI : ¬ (i : Int) < (i : Int) := by omega
      have hA := hA.out
      have hcap := ho.2.capLe
      have hsm : Sm D := fun e he => by
        obtain ⟨p, hp, hm⟩ := hA.mem' e he
        obtain ⟨s, hs, h1, h2⟩ := leafs_mem p hp
        rw [hm.1, h1]
        unfold fqI
        by_cases hsi : s.toNat < i
        · have := HF.out _ hsi; omega
        · have : ix f s.toNat = 0 := by
            have hl := hr.1
            unfold ix
            rw [List.getD_eq_getElem?_getD, List.getElem?_eq_none (by omega)]
            rfl
          rw [this]; omega
      rcases ho.2 with ⟨hn1, hn2, hn3⟩ | ⟨g, cur, rfl, hrest⟩
      · subst hn1 hn2 hn3
        have hD : D = [] := List.eq_nil_of_length_eq_zero ho.1.symm
        subst hD
        have hS : posI f i = [] := by
          have := hA.length
          rw [leafs_length] at this
          exact List.eq_nil_of_length_eq_zero this.symm
        have HP := Lib.hid (⟨hb, hS⟩ : _ ∧ _)
        clear hA hsm ho hb
        go_wp2_with fail
        refine (sortStable_nil _ _).mono ?_
        rintro e w5 ⟨rfl, rfl⟩
        go_wp2_with fail
        go_ret
        exact ⟨none, 0, 0, [], rfl, HP.out.1, ⟨[], ⟨rfl, fun h0 => by omega⟩, .nil⟩, .inl ⟨rfl, rfl⟩, by rw [HP.out.2], List.Pairwise.nil, Nat.le_refl _⟩
      · have hdt : Dt wr g q D wr := ⟨ho.1.symm, Chg.refl _ _, Own.ar ho.2⟩
        have HC := Lib.hid (sortStable_any wr wr g q c D hdt (by have := HM.out; omega) hsm hN.out.asc)
        have hgl : w.heap.size ≤ g := (ho.2.lt rfl).1
        have HA := Lib.hid (⟨hA, hcap, hgl, hb⟩ : _ ∧ _ ∧ _ ∧ _)
        clear hA hcap hgl hdt hsm ho hb
        unfold cmpF at HC
        go_wp2_with fail
        refine HC.out.mono ?_
        rintro e w5 ⟨D', rfl, hd5, hs5, hp5⟩
        go_wp2_with fail
        go_ret
        obtain ⟨hA, hcap, hgl, hb⟩ := HA.out
        obtain ⟨N, n1, n2, n3⟩ := hN.out
        obtain ⟨L', hL1, hL12⟩ := All2.perm hp5 (hA.and n1)
        obtain ⟨S, hS1, rfl⟩ := perm_leafs hL1
        have hL2 := hL12.mono fun e _ p hm => hm.1
        have hstab : (leafs (fqI f) S).Pairwise fun p q => p.w < q.w ∨ (p.w = q.w ∧ p.l.headD 0 ≤ q.l.headD 0) := hL12.pw hs5 fun e he e' he' p hp q hq r r' hee => by
          obtain ⟨s, hs, e1, e2⟩ := leafs_mem p hp
          obtain ⟨t, ht, e3, e4⟩ := leafs_mem q hq
          have r1 : ps e = N (p.l.headD 0) := r.2
          have r2 : ps e' = N (q.l.headD 0) := r'.2
          have w1 : e.1 = p.w := r.1.1
          have w2 : e'.1 = q.w := r'.1.1
          rcases hee with h | ⟨h, h'⟩
          · left; omega
          · right
            refine ⟨by omega, ?_⟩
            rw [e2, e4]
            rw [r1, r2, e2, e4] at h'
            rcases Int.lt_or_le t s with h9 | h9
            · have := n2 t (hS1.mem_iff.1 ht) s (hS1.mem_iff.1 hs) h9
              have h10 : N s ≤ N t := h'
              omega
            · exact h9
        have hL3 : All2 (MeanE w5 w5.heap.size fun g => g < w.heap.size) D' (leafs (fqI f) S) := hL2.mono fun e _ p hm => hm.chg hd5.chg (fun k hk => by subst hk; exact .inl rfl) (fun _ _ h => .inr h)
        refine ⟨some ⟨g, 0, none⟩, q, c, S, rfl, hb.trans (hd5.chg.below (fun k hk => by subst hk; exact hgl) hb.size), ⟨D', ⟨hd5.len.symm, ?_⟩, hL3⟩, .inr ⟨g, rfl, hgl, hd5.lt⟩, hS1, ?_, hcap⟩
        · exact hd5.ar.rd hd5.lt (Nat.le_refl _)
        · unfold leafs at hstab
          rw [List.pairwise_map] at hstab
          exact hstab
end Go.Proofs.Ytlgkiookobedcaa
namespace Go.Proofs.Ytlgkiookobedcaa
open Go.RowKit
set_option linter.unusedVariables false
theorem All2.at_ {α β : Type} {R : α → β → Prop} {xs : List α} {ys : List β} (h : All2 R xs ys) (a : α) (b : β) : ∀ i, i < xs.length → R (xs.getD i a) (ys.getD i b) := by
  induction h with
  | nil => intro i hi; simp at hi
  | cons h1 _ ih =>
    intro i hi
    cases i with
    | zero => exact h1
    | succ i => exact ih i (by simpa using hi)
theorem pairs_at (L : List Pk) (t : Nat) (h : 2 * t + 1 < L.length) : (pairsP L).take (t + 1) = (pairsP L).take t ++ [⟨(L.getD (2 * t) ⟨0, []⟩).w + (L.getD (2 * t + 1) ⟨0, []⟩).w, (L.getD (2 * t) ⟨0, []⟩).l ++ (L.getD (2 * t + 1) ⟨0, []⟩).l⟩] := by
  induction L using pairsP.induct generalizing t with
  | case1 a b r ih =>
    rw [pairsP]
    cases t with
    | zero => rfl
    | succ t =>
      have := ih t (by simp only [List.length_cons] at h; omega)
      rw [List.take_succ_cons, List.take_succ_cons, this]
      rw [show 2 * (t + 1) = 2 * t + 1 + 1 by omega, show 2 * t + 1 + 1 + 1 = (2 * t + 1) + 1 + 1 by omega]
      rfl
  | case2 u h' =>
    match u, h' with
    | [], _ => simp at h
    | [a], _ => simp at h
    | a :: b :: r, h' => exact absurd rfl (h' a b r)
def pF (v : Int) (A : Option Addr) (n c : Nat) (j : Nat) : Value := if j = 0 then .int .i64 v else .slice A n c
def PdB (wr : World) (xw yw : Int) (xA yA : Option Addr) (xn xc yn yc : Nat) (v5 v6 : Value) (wx : World) : Prop :=
  ∃ g5 g6, v5 = .pointer (some ⟨g5, 0, none⟩) ∧ v6 = .pointer (some ⟨g6, 0, none⟩) ∧ Ar wx g5 2 (pF xw xA xn xc) ∧ Ar wx g6 2 (pF yw yA yn yc) ∧ wr.heap.size ≤ g5 ∧ wr.heap.size ≤ g6 ∧ Below wr.heap.size wr wx
theorem ar_pack {w : World} {g : Nat} (hg : g = w.heap.size) (v : Int) (A : Option Addr) (n c : Nat) (t : TypeId) : Ar (w.alloc (.cells #[.int .i64 v, .slice A n c] t)) g 2 (pF v A n c) := by
  subst hg
  exact Ar.new w #[.int .i64 v, .slice A n c] t rfl (fun i hi => by
    obtain rfl | rfl : i = 0 ∨ i = 1 := by omega
    · rfl
    · rfl)
theorem pdb1 (wr : World) (xw yw : Int) (xA yA : Option Addr) (xn xc yn yc : Nat) : PdB wr xw yw xA yA xn xc yn yc (.pointer (some ⟨wr.heap.size, 0, none⟩)) (.pointer (some ⟨wr.heap.size + 1, 0, none⟩)) ((wr.alloc (.cells #[.int .i64 xw, .slice xA xn xc] 129)).alloc (.cells #[.int .i64 yw, .slice yA yn yc] 129)).drew :=
  ⟨_, _, rfl, rfl, ((ar_pack rfl xw xA xn xc _).alloc _).drew, (ar_pack (by simp) yw yA yn yc _).drew, Nat.le_refl _, Nat.le_succ _, (((Below.refl _ wr).alloc (Nat.le_refl _) _).alloc (by simp) _).drew⟩
theorem pdb2 (wr : World) (xw yw : Int) (xA yA : Option Addr) (xn xc yn yc : Nat) : PdB wr xw yw xA yA xn xc yn yc (.pointer (some ⟨wr.heap.size + 1, 0, none⟩)) (.pointer (some ⟨wr.heap.size, 0, none⟩)) ((wr.alloc (.cells #[.int .i64 yw, .slice yA yn yc] 129)).alloc (.cells #[.int .i64 xw, .slice xA xn xc] 129)).drew :=
  ⟨_, _, rfl, rfl, (ar_pack (by simp) xw xA xn xc _).drew, ((ar_pack rfl yw yA yn yc _).alloc _).drew, Nat.le_succ _, Nat.le_refl _, (((Below.refl _ wr).alloc (Nat.le_refl _) _).alloc (by simp) _).drew⟩
def PdR (w : World) (L : List Pk) (k : Nat) (v3 v4 : Value) (wr : World) : Prop :=
  ∃ (t p q c : Nat) (A : Option Addr) (D : List El), v3 = .slice A q c ∧ v4 = .int .i64 p ∧ Hid (p = 2 * t) ∧ OwnP wr w.heap.size A q c D ∧ Below w.heap.size w wr ∧ Hid (All2 (MeanE wr wr.heap.size fun g => blkOf A = some g ∨ g < w.heap.size) D ((pairsP L).take t)) ∧ Hid (k = L.length - p) ∧ p ≤ L.length + 1
def PkPost (w : World) (X : Nat → Prop) (L : List Pk) (e : Ending) (w' : World) : Prop :=
  ∃ g q c, e = .returned (.slice (some ⟨g, 0, none⟩) q c) ∧ Below w.heap.size w w' ∧ PckR w' w'.heap.size X (some ⟨g, 0, none⟩) q L ∧ q ≤ c ∧ w.heap.size ≤ g ∧ g < w'.heap.size
theorem P4 {w' : World} {g5 g6 : Nat} {xw yw : Int} {xA yA : Option Addr} {xn xc yn yc : Nat} (h5 : Ar w' g5 2 (pF xw xA xn xc)) (h6 : Ar w' g6 2 (pF yw yA yn yc)) :
    w'.cell? ⟨g5, 0, none⟩ = some (.int .i64 xw) ∧ w'.cell? ⟨g5, 1, none⟩ = some (.slice xA xn xc) ∧ w'.cell? ⟨g6, 0, none⟩ = some (.int .i64 yw) ∧ w'.cell? ⟨g6, 1, none⟩ = some (.slice yA yn yc) :=
  ⟨h5.cell (i := 0) (by omega), h5.cell (i := 1) (by omega), h6.cell (i := 0) (by omega), h6.cell (i := 1) (by omega)⟩
theorem cat_call (wc : World) (A1 A2 : Option Addr) (n1 c1 n2 c2 : Nat) (l1 l2 : List Int) (h1 : RdI .i64 wc wc.heap.size A1 n1 l1) (h2 : RdI .i64 wc wc.heap.size A2 n2 l2) (hn1 : n1 ≤ 400000) (hn2 : n2 ≤ 400000) :
    Calls Try.prog 90 #[.slice (some ⟨wc.heap.size, 0, none⟩) 2 2] (wc.alloc (.cells #[.slice A1 n1 c1, .slice A2 n2 c2] 32)).drew (MkI (wc.alloc (.cells #[.slice A1 n1 c1, .slice A2 n2 c2] 32)).drew (l1 ++ l2)) := by
  have ha := (Ar.new wc #[.slice A1 n1 c1, .slice A2 n2 c2] 32 (m := 2) (f := fun j => if j = 0 then .slice A1 n1 c1 else .slice A2 n2 c2) rfl (fun i hi => by
    obtain rfl | rfl : i = 0 ∨ i = 1 := by omega
    · rfl
    · rfl)).drew
  refine concat_any _ wc.heap.size wc.heap.size (by simp [World.drew]) A1 A2 n1 c1 n2 c2 l1 l2 (ha.cell (i := 0) (by omega)) (ha.cell (i := 1) (by omega)) (h1.alloc (Nat.le_refl _) _) (h2.alloc (Nat.le_refl _) _) ?_ hn1 hn2
  show wc.heap.size ≤ (wc.alloc _).heap.size
  simp
def SmP (L : List Pk) : Prop := ∀ p ∈ L, 0 ≤ p.w ∧ p.w ≤ 1099511627776 ∧ p.l.length ≤ 400000
set_option maxRecDepth 100000 in
set_option maxHeartbeats 8000000 in
theorem paired_any (w : World) (g n c B : Nat) (L : List Pk) (X : Nat → Prop) (hX : ∀ g, X g → g < w.heap.size) (hp : PckR w B X (some ⟨g, 0, none⟩) n L) (hB : B ≤ w.heap.size) (hn : n ≤ 1000) (hsm : SmP L) (h2 : 2 ≤ n) :
    Calls Try.prog 83 #[.slice (some ⟨g, 0, none⟩) n c] w (PkPost w X (pairsP L)) := by
  obtain ⟨i0, hi, hz0, hz1, hz2⟩ := info_parts pck_info
  have Hi := Lib.hid hi
  have Hz0 := Lib.hid hz0
  have Hz1 := Lib.hid hz1
  have Hz2 := Lib.hid hz2
  obtain ⟨D0, hrd, hmean⟩ := hp
  have hnL : n = L.length := hrd.1.trans hmean.length
  have hnI : (0 : Int) ≤ n ∧ (n : Int) ≤ 1000 := by omega
  have HRD := Lib.hid hrd
  have HXX := Lib.hid hX
  clear hX
  have HME := Lib.hid hmean
  have HSM := Lib.hid hsm
  have HNL := Lib.hid (⟨hnL, h2, hB, hn⟩ : _ ∧ _ ∧ _ ∧ _)
  clear hi hz0 hz1 hz2 hrd hmean hsm hnL h2 hB hn
  go_enter Try.func83, Try.ntmps83
  go_wp2_with fail
  go_loopg [3, 4] n (PdR w L)
  case atStart => exact ⟨0, 0, 0, 0, none, [], rfl, rfl, rfl, OwnP.nil_, Below.refl _ _, by rw [List.take_zero]; exact .nil, by show n = _; have := HNL.out.1; omega, by omega⟩
  case round =>
    obtain ⟨t, p, q, c2, A2, D2, rfl, rfl, hpt, ho, hb, hA, hk, hpl⟩ := hrel
    have hnl := HNL.out.1
    obtain ⟨p1, hp1⟩ : ∃ p1, p + 1 = p1 := ⟨_, rfl⟩
    have hs1 : (p : Int) + 1 = (p1 : Int) := by omega
    have hpI : (0 : Int) ≤ p ∧ (p : Int) ≤ 2000 ∧ (0 : Int) ≤ p1 ∧ (p1 : Int) ≤ 2000 := by have := HNL.out; omega
    by_cases hlt : p1 < n
    · obtain ⟨x, hx⟩ : ∃ x, el D0 p = x := ⟨_, rfl⟩
      obtain ⟨y, hy⟩ : ∃ y, el D0 p1 = y := ⟨_, rfl⟩
      have hD0 : D0.length = n := HRD.out.1.symm
      have mx := HME.out.at_ (0, none, 0, 0) ⟨0, []⟩ p (by omega)
      have my := HME.out.at_ (0, none, 0, 0) ⟨0, []⟩ p1 (by omega)
      change MeanE _ _ _ (el D0 p) _ at mx
      change MeanE _ _ _ (el D0 p1) _ at my
      rw [hx] at mx
      rw [hy] at my
      obtain ⟨xw, xA, xn, xc⟩ := x
      obtain ⟨yw, yA, yn, yc⟩ := y
      obtain ⟨ad, had, hadB, hcells⟩ := HRD.out.2 (by omega)
      obtain rfl : ad = ⟨g, 0, none⟩ := by injection had with had; exact had.symm
      have hgw : g < w.heap.size := Nat.lt_of_lt_of_le hadB HNL.out.2.2.1
      have cell : ∀ j, j < n * 2 → wr.cell? ⟨g, j, none⟩ = some (dF D0 j) := fun j hj => by
        have := hcells j hj
        rw [addr0] at this
        exact (hb.cell (p := ⟨g, j, none⟩) hgw).trans this
      have a0 := cell (p * 2) (by omega)
      have a1 := cell (p * 2 + 1) (by omega)
      have b0 := cell (p1 * 2) (by omega)
      have b1 := cell (p1 * 2 + 1) (by omega)
      rw [dF_even D0 rfl, hx] at a0
      rw [dF_odd D0 rfl, hx] at a1
      rw [dF_even D0 rfl, hy] at b0
      rw [dF_odd D0 rfl, hy] at b1
      replace a0 : wr.cell? ⟨g, p * 2, none⟩ = some (.int .i64 xw) := a0
      replace a1 : wr.cell? ⟨g, p * 2 + 1, none⟩ = some (.slice xA xn xc) := a1
      replace b0 : wr.cell? ⟨g, p1 * 2, none⟩ = some (.int .i64 yw) := b0
      replace b1 : wr.cell? ⟨g, p1 * 2 + 1, none⟩ = some (.slice yA yn yc) := b1
      have hltI : (p1 : Int) < (n : Int) ∧ (p : Int) < (n : Int) := by omega
      have w1 : IntKind.i64.wrap ((p : Int) + 1) = (p1 : Int) := by rw [hs1]; exact wr_in (by omega)
      have w2 : IntKind.i64.wrap (p1 : Int) = (p1 : Int) := wr_in (by omega)
      have hgr : g < wr.heap.size := Nat.lt_of_lt_of_le hgw hb.size
      have hgr1 : g < wr.heap.size + 1 := by omega
      have hgr2 : ¬ g = wr.heap.size := by omega
      have hgr3 : ¬ g = wr.heap.size + 1 := by omega
      have HP := Lib.hid (⟨mx, my, hp1, hlt, hnl, hgw, hpl⟩ : _ ∧ _ ∧ _ ∧ _ ∧ _ ∧ _ ∧ _)
      clear cell hcells hx hy hD0 mx my hp1 hlt hnl hgw had hadB hpl
      go_upto_region 5 with fail
      go_cut [5, 6] (fun v5 v6 wx => PdB wr xw yw xA yA xn xc yn yc v5 v6 wx)
      case first =>
        go_region
        all_goals
          go_wp2_with fail
          go_meet
          first
            | exact pdb1 wr xw yw xA yA xn xc yn yc
            | exact pdb2 wr xw yw xA yA xn xc yn yc
      case rest =>
        clear a0 a1 b0 b1 w1 w2 hgr hgr1 hgr2 hgr3
        obtain ⟨g5, g6, rfl, rfl, h5, h6, l5, l6, hbx⟩ := hcut
        obtain ⟨mx, my, hp1, hlt, hnl, hgw, hpl⟩ := HP.out
        have hbw := hb.trans (hbx.mono hb.size)
        have hox := ho.keeps hbx
        have hnum : xw = (L.getD p ⟨0, []⟩).w ∧ yw = (L.getD p1 ⟨0, []⟩).w := ⟨mx.1, my.1⟩
        have rx := (mx.2.1.more HNL.out.2.2.1).below hbw
        have ry := (my.2.1.more HNL.out.2.2.1).below hbw
        have mpx := HSM.out (L.getD p ⟨0, []⟩) (by rw [List.getD_eq_getElem?_getD, List.getElem?_eq_getElem (by omega)]; exact List.getElem_mem _)
        have mpy := HSM.out (L.getD p1 ⟨0, []⟩) (by rw [List.getD_eq_getElem?_getD, List.getElem?_eq_getElem (by omega)]; exact List.getElem_mem _)
        have hwI : (0 : Int) ≤ xw ∧ xw ≤ 1099511627776 ∧ (0 : Int) ≤ yw ∧ yw ≤ 1099511627776 := by omega
        have hxn : xn ≤ 400000 := by have : xn = _ := rx.1; rw [this]; exact mpx.2.2
        have hyn : yn ≤ 400000 := by have : yn = _ := ry.1; rw [this]; exact mpy.2.2
        have HCC := Lib.hid (cat_call wc xA yA xn xc yn yc _ _ (rx.more hbw.size) (ry.more hbw.size) hxn hyn)
        obtain ⟨sw, hsw⟩ : ∃ s, xw + yw = s := ⟨_, rfl⟩
        have hswI : (0 : Int) ≤ sw ∧ sw ≤ 2199023255552 := by omega
        have hwr1 : IntKind.i64.wrap (xw + yw) = sw := by rw [hsw]; exact IntWalk.i64_in _ (by omega)
        have hwr2 : IntKind.i64.wrap sw = sw := IntWalk.i64_in _ (by omega)
        have HX := Lib.hid (⟨mx, my, hp1, hlt, hnl, hpl, hnum, hsw⟩ : _ ∧ _ ∧ _ ∧ _ ∧ _ ∧ _ ∧ _ ∧ xw + yw = sw)
        have hq1 : q + 1 ≤ 1000000000000 := by
          have h1 := hox.1
          have h2 := hA.out.length
          have h3 : ((pairsP L).take t).length ≤ (pairsP L).length := List.length_take_le' _ _
          rw [pairs_length] at h3
          have := HNL.out
          omega
        have hbs := hbw.size
        have hA2 : ∀ k, blkOf A2 = some k → k < wr.heap.size := fun k hk => (ho.2.lt hk).2
        have HA2 := Lib.hid (⟨hA2, l5, l6, hbx⟩ : _ ∧ _ ∧ _ ∧ _)
        clear mx my hp1 hlt hnl hpl hnum mpx mpy hxn hyn hgw HP rx ry hA2 l5 l6
        go_upto_region 6 with fail
        go_region_held3 (fun w' => w'.cell? ⟨g5, 0, none⟩ = some (.int .i64 xw) ∧ w'.cell? ⟨g5, 1, none⟩ = some (.slice xA xn xc) ∧ w'.cell? ⟨g6, 0, none⟩ = some (.int .i64 yw) ∧ w'.cell? ⟨g6, 1, none⟩ = some (.slice yA yn yc))
          (first | exact P4 m5 m6 | exact P4 (k5.alloc _) (k6.alloc _) | exact P4 k5 k6 | exact P4 (h5.alloc _).drew (h6.alloc _).drew | exact P4 h5.drew h6.drew | exact P4 h5 h6)
          (first
            | (go_at_call 90; (refine HCC.out.mono ?_); rintro e w5 ⟨A5, n5, c5, rfl, ho5, hb5⟩
               have k5 := ((h5.alloc (.cells #[.slice xA xn xc, .slice yA yn yc] 32)).drew).keeps hb5
               have k6 := ((h6.alloc (.cells #[.slice xA xn xc, .slice yA yn yc] 32)).drew).keeps hb5
               have o5 := ((hox.alloc (.cells #[.slice xA xn xc, .slice yA yn yc] 32)).drew).keeps hb5
               have s5 : wc.heap.size + 1 ≤ w5.heap.size := by have := hb5.size; simpa [World.drew] using this)
            | (have _g := o5; (refine step_appP w.heap.size i0 rfl (.tmp 23) (.tmp 36) rfl Hi.out Hz0.out Hz1.out Hz2.out rfl (o5.alloc _) rfl (RdP.litg rfl sw A5 n5 c5 129) hq1 (by simp; omega) ?_); intro A6 d6 w6 hown6 hg6 hat6
               have m5 := (k5.alloc _).grown hg6 (fun e => by have := HA2.out.1 _ e.symm; have := HA2.out.2.1; omega)
               have m6 := (k6.alloc _).grown hg6 (fun e => by have := HA2.out.1 _ e.symm; have := HA2.out.2.2.1; omega)))
        obtain ⟨p2, hp2⟩ : ∃ p2, p + 2 = p2 := ⟨_, rfl⟩
        have hs2 : (p : Int) + 2 = (p2 : Int) := by omega
        have HP2 := Lib.hid hp2
        clear hp2
        go_wp2_with fail
        go_roundg (n - p2)
        case measure => have := hk.out; have := HP2.out; have := HX.out; omega
        case rel =>
          obtain ⟨mx, my, hp1, hlt, hnl, hpl, hnum, hsw⟩ := HX.out
          obtain ⟨hA2, l5, l6, hbx⟩ := HA2.out
          have c0 : Chg wr wc (fun k => blkOf A2 = some k) := Chg.of_below hbx
          have c2' := ((c0.alloc (.cells #[.slice xA xn xc, .slice yA yn yc] 32)).drew).trans (Chg.of_below (S := fun _ => False) hb5) (fun k hk => hk.elim)
          have c3 := (c2'.alloc (.cells #[.int .i64 sw, .slice A5 n5 c5] 129)).grown hg6 (fun k hk => .inl hk)
          have c5 : Chg w5 w6 (fun k => blkOf A2 = some k) := ((Chg.refl w5 _).alloc (.cells #[.int .i64 sw, .slice A5 n5 c5] 129)).grown hg6 (fun k hk => .inl hk)
          have hbelow : Below w.heap.size w w6 := hb.trans (c3.below (fun k hk => (ho.2.lt hk).1) hb.size)
          have hwx := hbx.size
          have h5lt : ∀ k, blkOf A5 = some k → wr.heap.size ≤ k ∧ k < w5.heap.size := fun k hk => by
            have h1 := (ho5.2.lt hk).1
            have h2 := (ho5.2.lt hk).2
            simp [World.drew] at h1
            omega
          refine ⟨t + 1, p2, q + 1, d6, A6, _, rfl, rfl, by have := HP2.out; have := hpt.out; show _ = _; omega, hown6, hbelow, ?_, by show n - p2 = _; have := HNL.out.1; omega, by have := HP2.out; omega⟩
          show All2 _ _ _
          rw [pairs_at L t (by have := hpt.out; omega), ← hpt.out, hp1]
          refine (hA.out.mono fun e _ pk hm => hm.chg c3 (fun k hk => .inl hk) (fun k hk hx => ?_)).app (All2.one ⟨?_, ?_, fun _ k hk hx => ?_⟩)
          · rcases hx with hx | hx
            · rcases hat6 with e1 | e1
              · left; rw [← e1]; exact hx
              · rw [e1] at hx; injection hx with hx; simp at hx; omega
            · exact .inr hx
          · show sw = _
            rw [← hsw, hnum.1, hnum.2]
          · exact (c5.rdI ho5.rd (Nat.le_refl _) (fun _ ad e1 hs => by
              have h9 := (h5lt ad.block (by rw [e1]; rfl)).1
              have h8 := hA2 _ hs
              omega)).more c5.size
          · have h9 := h5lt k hk
            have hbsz := hb.size
            rcases hx with hx | hx
            · rcases hat6 with e1 | e1
              · rw [e1] at hx; have h8 := hA2 _ hx; omega
              · rw [e1] at hx; injection hx with hx; simp at hx; omega
            · omega
    · have hltI : ¬ (p1 : Int) < (n : Int) := by omega
      have hfull : (pairsP L).take t = pairsP L := List.take_of_length_le (by rw [pairs_length]; have := hpt.out; have := HNL.out; omega)
      have hA' := hA.out
      rw [hfull] at hA'
      have hql : q = (pairsP L).length := by have h1 := ho.1; have h2 := hA'.length; omega
      have hq1 : 0 < q := by rw [hql, pairs_length]; have := HNL.out; omega
      have hcap := ho.2.capLe
      obtain ⟨g2, rfl⟩ := ho.2.addr (by omega)
      have hfin : Hid (PkPost w X (pairsP L) (.returned (.slice (some ⟨g2, 0, none⟩) q c2)) wr) :=
        ⟨g2, q, c2, rfl, hb, ⟨D2, ⟨ho.1, ho.2.rd⟩, hA'.mono fun e _ pk hm => hm.chg (S := fun _ => False) (Chg.refl _ _) (fun k hk => hk.elim) (fun k _ hk => .inr (HXX.out k hk))⟩, hcap, (ho.2.lt rfl).1, (ho.2.lt rfl).2⟩
      clear hlt hfull hA' hql hq1 hcap hnl hp1
      go_wp2_with fail
      go_ret
      exact hfin.out
end Go.Proofs.Ytlgkiookobedcaa
namespace Go.Proofs.Ytlgkiookobedcaa
open Go.RowKit
set_option linter.unusedVariables false
def cutP (A : Option Addr) (c : Nat) : Option Addr := if c = 1 then A else A.map (·.add 2)
theorem run_slice_one {i : TypeInfo} (hi : Try.prog.info? 129 = some i) (hs : i.size = 2) (A : Option Addr) (n c : Nat) (hn : 1 ≤ n) (W : World) :
    (Instr.slice 126 (.slice A n c) (some (.int .i64 1)) none none).run Try.prog W = .ok (.slice (cutP A c) (n - 1) (c - 1)) W := by
  have he : Try.prog.elem 126 = 129 := by simp [Program.elem, Try.underlying126]
  rw [run_slice_l W 126 A n c (by rw [he]; exact Try.underlying126) .i64 1 (by omega) (by omega), he]
  simp [sizeOf, typeInfo, hi, hs, sliced, cutP]
theorem RdP.tail {w : World} {B n c : Nat} {A : Option Addr} {e : El} {D : List El} (h : RdP w B A n (e :: D)) (hc : n ≤ c) : RdP w B (cutP A c) (n - 1) D := by
  have hn : n = D.length + 1 := h.1
  refine ⟨by omega, fun h0 => ?_⟩
  obtain ⟨ad, e1, hb, hcl⟩ := h.2 (by omega)
  refine ⟨ad.add 2, by unfold cutP; rw [if_neg (by omega), e1]; rfl, by rw [addr_block]; exact hb, fun i hi => ?_⟩
  have h9 := hcl (2 + i) (by omega)
  have ha : (ad.add 2).add i = ad.add (2 + i) := by
    rw [addr_add]
  rw [ha, h9]
  have : dF (e :: D) (2 + i) = dF D i := by
    unfold dF el
    rw [show (2 + i) % 2 = i % 2 by omega, show (2 + i) / 2 = i / 2 + 1 by omega]
    rfl
  rw [this]
theorem add_zero' (a : Addr) : a.add 0 = a := by unfold Addr.add; simp
theorem add_one' (a : Addr) : a.add 1 = ⟨a.block, a.off + 1, none⟩ := by unfold Addr.add; simp
def MgR (w : World) (B : Nat) (X : Nat → Prop) (L1 L2 : List Pk) (k : Nat) (v0 v1 v5 : Value) (wr : World) : Prop :=
  ∃ (A1 A2 A : Option Addr) (n1 c1 n2 c2 q c : Nat) (E1 E2 D : List El) (M1 M2 M : List Pk), v0 = .slice A1 n1 c1 ∧ v1 = .slice A2 n2 c2 ∧ v5 = .slice A q c ∧ n1 ≤ c1 ∧ n2 ≤ c2 ∧ Hid (RdP w B A1 n1 E1) ∧ Hid (RdP w B A2 n2 E2) ∧ Hid (All2 (MeanE w B X) E1 M1) ∧ Hid (All2 (MeanE w B X) E2 M2) ∧
    OwnP wr w.heap.size A q c D ∧ Below w.heap.size w wr ∧ Hid (All2 (MeanE w B X) D M) ∧ Hid (M ++ mrg M1 M2 = mrg L1 L2) ∧ Hid (k = n1 + n2) ∧ q + n1 + n2 ≤ 3000
set_option maxRecDepth 100000 in
set_option maxHeartbeats 8000000 in
theorem merged_any (w : World) (B n1 c1 n2 c2 : Nat) (A1 A2 : Option Addr) (L1 L2 : List Pk) (X : Nat → Prop) (h1 : PckR w B X A1 n1 L1) (h2 : PckR w B X A2 n2 L2) (hB : B ≤ w.heap.size) (hn0 : 0 < n1) (hn1 : n1 ≤ 1000) (hn2 : n2 ≤ 1000) (hc1 : n1 ≤ c1) (hc2 : n2 ≤ c2) :
    Calls Try.prog 82 #[.slice A1 n1 c1, .slice A2 n2 c2] w (PkPost w X (mrg L1 L2)) := by
  obtain ⟨i0, hi, hz0, hz1, hz2⟩ := info_parts pck_info
  have Hi := Lib.hid hi
  have Hz0 := Lib.hid hz0
  have Hz1 := Lib.hid hz1
  have Hz2 := Lib.hid hz2
  have hnI : (0 : Int) ≤ n1 ∧ (n1 : Int) ≤ 1000 ∧ (0 : Int) ≤ n2 ∧ (n2 : Int) ≤ 1000 := by omega
  obtain ⟨N, hN⟩ : ∃ N, n1 + n2 = N := ⟨_, rfl⟩
  have hsN : (n1 : Int) + (n2 : Int) = (N : Int) := by omega
  have hmk := run_make (P := Try.prog) w 126 129 i0 _ Try.underlying126 hi hz0 .i64 .i64 0 (N : Int) (Int.le_refl _) (by omega) (by rw [hz2]; omega) (by omega)
  rw [Int.toNat_natCast, hz1] at hmk
  obtain ⟨Zc, hZc⟩ : ∃ Z, madeCells (Value.agg #[.int .i64 0, .slice none 0 0]).cells (N * 2) = Z := ⟨_, rfl⟩
  have hZs : Zc.size = N * 2 := by rw [← hZc]; simp [madeCells]
  rw [hZc] at hmk
  have hmk2 : (Instr.makeSlice 126 (.int .i64 0) (.int .i64 (N : Int))).run Try.prog w = .ok (.slice (some ⟨w.heap.size, 0, none⟩) 0 N) (w.alloc (.cells Zc 129)) := hmk
  have hown0 : OwnP (w.alloc (.cells Zc 129)) w.heap.size (some ⟨w.heap.size, 0, none⟩) 0 N [] := ⟨rfl, .inr ⟨w.heap.size, Zc, rfl, Nat.le_refl _, heap_alloc_new w _, Nat.zero_le _, by unfold maxLen; omega, hZs, fun i hi => by omega⟩⟩
  have hsl := fun (A : Option Addr) (n c : Nat) (hn : 1 ≤ n) W => run_slice_one hi hz1 A n c hn W
  have HSL := Lib.hid hsl
  obtain ⟨D1, hr1, hm1⟩ := h1
  obtain ⟨D2, hr2, hm2⟩ := h2
  have hini : Hid (MgR w B X L1 L2 N (.slice A1 n1 c1) (.slice A2 n2 c2) (.slice (some ⟨w.heap.size, 0, none⟩) 0 N) (w.alloc (.cells Zc 129))) :=
    ⟨A1, A2, _, n1, c1, n2, c2, 0, N, D1, D2, [], L1, L2, [], rfl, rfl, rfl, hc1, hc2, hr1, hr2, hm1, hm2, hown0, (Below.refl _ w).alloc (Nat.le_refl _) _, .nil, rfl, hN.symm, by omega⟩
  have HBW := Lib.hid hB
  have hlm : 0 < (mrg L1 L2).length := by rw [mrg_length, ← hm1.length, ← hr1.1]; omega
  have HLM := Lib.hid hlm
  clear hi hz0 hz1 hz2 hmk hZc hZs hown0 hsl hr1 hm1 hr2 hm2 hN hn0 hn1 hn2 hc1 hc2 hB hlm
  go_enter Try.func82, Try.ntmps82
  go_wp2_with fail
  go_loopg [0, 1, 5] N (MgR w B X L1 L2)
  case atStart => exact hini.out
  case round =>
    clear hini hmk2 hnI
    obtain ⟨A1, A2, A, n1, c1, n2, c2, q, c, E1, E2, D, M1, M2, M, rfl, rfl, rfl, hc1, hc2, hr1, hr2, hm1, hm2, ho, hb, hmM, hM, hk, hq⟩ := hrel
    have hnI : (0 : Int) ≤ n1 ∧ (n1 : Int) ≤ 3000 ∧ (0 : Int) ≤ n2 ∧ (n2 : Int) ≤ 3000 := by omega
    by_cases hpos : 0 < n1 ∧ 0 < n2
    · have hp1 : (0 : Int) < n1 ∧ (0 : Int) < n2 := by omega
      obtain ⟨ad1, rfl, hb1, hcl1⟩ := hr1.out.2 (by omega)
      obtain ⟨ad2, rfl, hb2, hcl2⟩ := hr2.out.2 (by omega)
      cases E1 with
      | nil => have := hr1.out.1; simp at this; omega
      | cons x E1 =>
        cases E2 with
        | nil => have := hr2.out.1; simp at this; omega
        | cons y E2 =>
          obtain ⟨xw, xA, xn, xc⟩ := x
          obtain ⟨yw, yA, yn, yc⟩ := y
          have a0 := (hb.cell (p := ad1.add 0) (by rw [addr_block]; have := HBW.out; omega)).trans (hcl1 0 (by omega))
          have a1 := (hb.cell (p := ad1.add 1) (by rw [addr_block]; have := HBW.out; omega)).trans (hcl1 1 (by omega))
          have b0 := (hb.cell (p := ad2.add 0) (by rw [addr_block]; have := HBW.out; omega)).trans (hcl2 0 (by omega))
          have b1 := (hb.cell (p := ad2.add 1) (by rw [addr_block]; have := HBW.out; omega)).trans (hcl2 1 (by omega))
          rw [add_zero'] at a0 b0
          rw [add_one'] at a1 b1
          replace a0 : wr.cell? ad1 = some (.int .i64 xw) := a0
          replace a1 : wr.cell? ⟨ad1.block, ad1.off + 1, none⟩ = some (.slice xA xn xc) := a1
          replace b0 : wr.cell? ad2 = some (.int .i64 yw) := b0
          replace b1 : wr.cell? ⟨ad2.block, ad2.off + 1, none⟩ = some (.slice yA yn yc) := b1
          go_wp2_with fail
          go_quiet (fail)
          have hbd := below_drewN hb nq
          have hod := ho.drewN nq
          have hq1 : q + 1 ≤ 1000000000000 := by omega
          have hsa := HSL.out (some ad1) n1 c1 (by omega)
          have hsb := HSL.out (some ad2) n2 c2 (by omega)
          have hp1a : (0 : Int) < n1 := hp1.1
          have hp1b : (0 : Int) < n2 := hp1.2
          have hp1c : 0 < n1 := hpos.1
          have hp1d : 0 < n2 := hpos.2
          have HQ := Lib.hid (⟨hpos, hq⟩ : _ ∧ _)
          clear hpos hq
          by_cases hlt : yw < xw
          · have KS : Hid (∀ W, Below w.heap.size w W → W.cell? ad2 = some (.int .i64 yw) ∧ W.cell? ⟨ad2.block, ad2.off + 1, none⟩ = some (.slice yA yn yc)) := fun W hW => by
              have g0 := (hW.cell (p := ad2.add 0) (by rw [addr_block]; have := HBW.out; omega)).trans (hcl2 0 (by have := HQ.out; omega))
              have g1 := (hW.cell (p := ad2.add 1) (by rw [addr_block]; have := HBW.out; omega)).trans (hcl2 1 (by have := HQ.out; omega))
              rw [add_zero'] at g0
              rw [add_one'] at g1
              exact ⟨g0, g1⟩
            clear a0 a1 b0 b1
            go_wp2_with fail
            go_region_held3 (fun w' => w'.cell? ad2 = some (.int .i64 yw) ∧ w'.cell? ⟨ad2.block, ad2.off + 1, none⟩ = some (.slice yA yn yc))
              (first | exact KS.out _ hb6 | exact KS.out _ (hbd.alloc hbd.size _) | exact KS.out _ (hbd.drew.alloc hbd.drew.size _) | exact KS.out _ (hbd.alloc hbd.size _).drew | exact KS.out _ hbd | exact KS.out _ hbd.drew)
              (first
                | ((refine step_appP w.heap.size i0 rfl (.tmp 29) (.tmp 33) rfl Hi.out Hz0.out Hz1.out Hz2.out rfl (hod.drew.alloc (.cells #[.int .i64 yw, .slice yA yn yc] 129)) rfl (RdP.litg (w := (wr.drewN nq).drew) rfl yw yA yn yc 129) hq1 (hbd.drew.alloc hbd.drew.size _).size ?_); intro A6 d6 w6 hown6 hg6 hat6
                   have hb6 := (hbd.drew.alloc hbd.drew.size (.cells #[.int .i64 yw, .slice yA yn yc] 129)).grown hg6 (hbd.drew.alloc hbd.drew.size _).size (fun k hk => (ho.2.lt hk).1)))
            go_wp2_with fail
            go_roundg (n1 + (n2 - 1))
            case measure => have := hk.out; have := HQ.out; omega
            case rel =>
              cases hm2.out with
              | cons k1 k2 =>
                cases hm1.out with
                | cons k3 k4 =>
                  rename_i p2 M2 p1 M1
                  refine ⟨some ad1, cutP (some ad2) c2, A6, n1, c1, n2 - 1, c2 - 1, q + 1, d6, _, E2, _, p1 :: M1, M2, M ++ [p2], rfl, rfl, rfl, hc1, by omega, hr1.out, hr2.out.tail hc2, .cons k3 k4, k2, hown6, hb6, ?_, ?_, rfl, by have := HQ.out; omega⟩
                  · exact hmM.out.app (All2.one k1)
                  · have hw1 : p2.w < p1.w := by
                      rw [← k1.1, ← k3.1]; exact hlt
                    show _ = _
                    rw [← hM.out, mrg, if_pos hw1, List.append_assoc]
                    rfl
          · have hlt2 : decide (yw < xw) = false := by simp; omega
            have KS : Hid (∀ W, Below w.heap.size w W → W.cell? ad1 = some (.int .i64 xw) ∧ W.cell? ⟨ad1.block, ad1.off + 1, none⟩ = some (.slice xA xn xc)) := fun W hW => by
              have g0 := (hW.cell (p := ad1.add 0) (by rw [addr_block]; have := HBW.out; omega)).trans (hcl1 0 (by have := HQ.out; omega))
              have g1 := (hW.cell (p := ad1.add 1) (by rw [addr_block]; have := HBW.out; omega)).trans (hcl1 1 (by have := HQ.out; omega))
              rw [add_zero'] at g0
              rw [add_one'] at g1
              exact ⟨g0, g1⟩
            clear a0 a1 b0 b1
            go_wp2_with fail
            go_region_held3 (fun w' => w'.cell? ad1 = some (.int .i64 xw) ∧ w'.cell? ⟨ad1.block, ad1.off + 1, none⟩ = some (.slice xA xn xc))
              (first | exact KS.out _ hb6 | exact KS.out _ (hbd.alloc hbd.size _) | exact KS.out _ (hbd.drew.alloc hbd.drew.size _) | exact KS.out _ (hbd.alloc hbd.size _).drew | exact KS.out _ hbd | exact KS.out _ hbd.drew)
              (first
                | ((refine step_appP w.heap.size i0 rfl (.tmp 37) (.tmp 41) rfl Hi.out Hz0.out Hz1.out Hz2.out rfl (hod.drew.alloc (.cells #[.int .i64 xw, .slice xA xn xc] 129)) rfl (RdP.litg (w := (wr.drewN nq).drew) rfl xw xA xn xc 129) hq1 (hbd.drew.alloc hbd.drew.size _).size ?_); intro A6 d6 w6 hown6 hg6 hat6
                   have hb6 := (hbd.drew.alloc hbd.drew.size (.cells #[.int .i64 xw, .slice xA xn xc] 129)).grown hg6 (hbd.drew.alloc hbd.drew.size _).size (fun k hk => (ho.2.lt hk).1)))
            go_wp2_with fail
            go_roundg (n1 - 1 + n2)
            case measure => have := hk.out; have := HQ.out; omega
            case rel =>
              cases hm2.out with
              | cons k1 k2 =>
                cases hm1.out with
                | cons k3 k4 =>
                  rename_i p2 M2 p1 M1
                  refine ⟨cutP (some ad1) c1, some ad2, A6, n1 - 1, c1 - 1, n2, c2, q + 1, d6, E1, _, _, M1, p2 :: M2, M ++ [p1], rfl, rfl, rfl, by omega, hc2, hr1.out.tail hc1, hr2.out, k4, .cons k1 k2, hown6, hb6, ?_, ?_, rfl, by have := HQ.out; omega⟩
                  · exact hmM.out.app (All2.one k3)
                  · have hw1 : ¬ p2.w < p1.w := by
                      rw [← k1.1, ← k3.1]; show ¬ yw < xw; omega
                    show _ = _
                    rw [← hM.out, mrg, if_neg hw1, List.append_assoc]
                    rfl
    · have hcs : (n1 = 0) ∨ (0 < n1 ∧ n2 = 0) := by omega
      have hsame : mrg M1 M2 = M1 ++ M2 := by
        have l1 : M1.length = n1 := by rw [← hm1.out.length, ← hr1.out.1]
        have l2 : M2.length = n2 := by rw [← hm2.out.length, ← hr2.out.1]
        rcases hcs with h | ⟨_, h⟩
        · have : M1 = [] := List.eq_nil_of_length_eq_zero (by omega)
          rw [this, nil_mrg]; rfl
        · have : M2 = [] := List.eq_nil_of_length_eq_zero (by omega)
          rw [this, mrg_nil, List.append_nil]
      have hM2 := hM.out
      rw [hsame] at hM2
      have ra := hr1.out.below (hb.mono HBW.out)
      have hbs := hb.size
      have hqa : q + n1 ≤ 1000000000000 := by omega
      have hqb : q + n1 + n2 ≤ 1000000000000 := by omega
      have hfin : Hid (∀ A7 c7 w7, OwnP w7 w.heap.size A7 (q + n1 + n2) c7 (D ++ E1 ++ E2) → Below w.heap.size w w7 → PkPost w X (mrg L1 L2) (.returned (.slice A7 (q + n1 + n2) c7)) w7) := fun A7 c7 w7 h7 hb7 => by
        have hA7 : All2 (MeanE w B X) (D ++ E1 ++ E2) (M ++ M1 ++ M2) := (hmM.out.app hm1.out).app hm2.out
        rw [show M ++ M1 ++ M2 = M ++ (M1 ++ M2) by simp, hM2] at hA7
        have hpos7 : 0 < q + n1 + n2 := by rw [h7.1, hA7.length]; exact HLM.out
        obtain ⟨g7, rfl⟩ := h7.2.addr hpos7
        refine ⟨g7, _, c7, rfl, hb7, ⟨_, h7.rd, hA7.mono fun e _ pk hm => ⟨hm.1, (hm.2.1.below (hb7.mono HBW.out)).more (Nat.le_trans HBW.out hb7.size), hm.2.2⟩⟩, h7.2.capLe, (h7.2.lt rfl).1, (h7.2.lt rfl).2⟩
      have HR2 := Lib.hid hr2.out
      have hcI : ((n1 : Int) = 0) ∨ ((0 : Int) < n1 ∧ (n2 : Int) = 0) := by omega
      have HC := Lib.hid hcI
      have hk1 : ¬ (0 : Int) < n1 ∨ ((0 : Int) < n1 ∧ ¬ (0 : Int) < n2) := by omega
      clear hcs hsame hM2 hpos hq hcI
      rcases hk1 with hk1 | ⟨hk1, hk2⟩
      all_goals
        go_wp2_with (first
          | (at_builtin; (refine wpList_appP w.heap.size i0 rfl (.tmp 45) (.tmp 46) rfl Hi.out Hz0.out Hz1.out Hz2.out rfl ho rfl ra hqa hbs ?_); intro A6 d6 w6 hown6 hg6 hat6; have hb6 := hb.grown hg6 hbs (fun k hk => (ho.2.lt hk).1); have rb := HR2.out.below (hb6.mono HBW.out))
          | (have _g := hb6; at_builtin; (refine wpList_appP w.heap.size i0 rfl (.tmp 47) (.tmp 48) rfl Hi.out Hz0.out Hz1.out Hz2.out rfl hown6 rfl rb hqb hb6.size ?_); intro A7 d7 w7 hown7 hg7 hat7; have hb7 := hb6.grown hg7 hb6.size (fun k hk => (hown6.2.lt hk).1)))
        all_goals go_ret
        all_goals exact hfin.out _ _ _ hown7 hb7
end Go.Proofs.Ytlgkiookobedcaa
namespace Go.Proofs.Ytlgkiookobedcaa
open Go.RowKit
set_option linter.unusedVariables false
def badB (f : List Int) : Bool := f.any fun v => decide (v < 0) || decide (1048576 < v)
def mayV (f : List Int) (m : Int) : Int :=
  if 288 < f.length ∨ m < 1 ∨ 15 < m then 1 else if badB f = true then 1 else if 2 ^ m.toNat < (posI f f.length).length then 3 else 0
theorem bad_at {f : List Int} {i : Nat} (hi : i < f.length) (h : ix f i < 0 ∨ 1048576 < ix f i) : badB f = true := by
  unfold badB
  rw [List.any_eq_true]
  exact ⟨ix f i, ix_mem hi, by simpa using h⟩
theorem bad_not {f : List Int} (h : ∀ j, j < f.length → 0 ≤ ix f j ∧ ix f j ≤ 1048576) : badB f = false := by
  unfold badB
  rw [List.any_eq_false]
  intro v hv
  obtain ⟨i, hi, e⟩ := List.getElem_of_mem hv
  have := h i hi
  have e2 : ix f i = v := by simp [ix, hi, e]
  rw [e2] at this
  simp; omega
theorem pos_len (f : List Int) (k : Nat) : (posI f k).length ≤ k := by
  induction k with
  | zero => exact Nat.le_refl _
  | succ k ih => rw [posI, List.length_append]; split <;> simp <;> omega
def CkR (w : World) (f : List Int) (n : Nat) (k : Nat) (v5 v21 : Value) (wr : World) : Prop :=
  ∃ i c : Nat, v5 = .int .i64 c ∧ v21 = .int .i64 i ∧ wr = w ∧ i ≤ n ∧ Hid (c = (posI f i).length) ∧ Hid (∀ j, j < i → 0 ≤ ix f j ∧ ix f j ≤ 1048576) ∧ Hid (k = n - i)
set_option maxRecDepth 100000 in
set_option maxHeartbeats 4000000 in
theorem lcheck_any (w : World) (B : Nat) (C : Option Addr) (n d : Nat) (f : List Int) (hr : RdI .i64 w B C n f) (m : Int) (hnm : (n : Int) ≤ 4611686018427387904) :
    Calls Try.prog 80 #[.slice C n d, .int .i64 m] w fun e w' => e = .returned (.int .i64 (mayV f m)) ∧ w = w' := by
  have hnf := hr.1
  have hn0 : (0 : Int) ≤ n := by omega
  by_cases hbig : 288 < n ∨ m < 1 ∨ 15 < m
  · have hv : mayV f m = 1 := by unfold mayV; rw [if_pos (by omega)]
    rw [hv]
    have hc : (288 : Int) < n ∨ (¬ (288 : Int) < n ∧ m < 1) ∨ (¬ (288 : Int) < n ∧ ¬ m < 1 ∧ 15 < m) := by omega
    clear hbig hv hnf hr
    rcases hc with h1 | ⟨h1, h2⟩ | ⟨h1, h2, h3⟩
    all_goals
      go_enter Try.func80, Try.ntmps80
      go_wp2_with fail
      go_ret
      exact ⟨rfl, rfl⟩
  · have h1 : ¬ (288 : Int) < n := by omega
    have h2 : ¬ m < 1 := by omega
    have h3 : ¬ 15 < m := by omega
    have hv : mayV f m = if badB f = true then 1 else if 2 ^ m.toNat < (posI f f.length).length then 3 else 0 := by unfold mayV; rw [if_neg (by omega)]
    have HV := Lib.hid hv
    have HNF := Lib.hid hnf
    have hnI : (n : Int) ≤ 288 := by omega
    obtain ⟨mm, rfl⟩ := Int.eq_ofNat_of_zero_le (show 0 ≤ m by omega)
    have hmm : mm ≤ 15 := by omega
    obtain ⟨T, hT⟩ : ∃ T, 2 ^ mm = T := ⟨_, rfl⟩
    have hTb : 1 ≤ T ∧ T ≤ 32768 := by
      rw [← hT]
      exact ⟨Nat.two_pow_pos _, Nat.le_trans (Nat.pow_le_pow_right (by omega) hmm) (by decide)⟩
    have hTI : (2 : Int) ^ mm = (T : Int) := by rw [← hT]; simp
    have hTw : IntKind.i64.wrap (T : Int) = (T : Int) := IntWalk.i64_in _ (by omega)
    have HT := Lib.hid hT
    clear hbig hv hnf hT
    go_enter Try.func80, Try.ntmps80
    go_wp2_with fail
    go_loopg [5, 21] n (CkR w f n)
    case atStart => exact ⟨0, 0, rfl, rfl, rfl, Nat.zero_le _, rfl, fun j hj => by omega, rfl⟩
    case round =>
      obtain ⟨i, c, rfl, rfl, hw, hi, hc, hall, hk⟩ := hrel
      obtain rfl := hw.symm
      by_cases hlt : i < n
      · have hltI : (i : Int) < (n : Int) ∧ (0 : Int) ≤ i := by omega
        obtain ⟨v, hv⟩ : ∃ v, ix f i = v := ⟨_, rfl⟩
        obtain ⟨ad, rfl, hadb, hcv⟩ := hr.at_ (i := i) hlt
        rw [hv] at hcv
        have hcb : c ≤ 288 := by have := hc.out; have := pos_len f i; omega
        have hcI : (0 : Int) ≤ c ∧ (c : Int) ≤ 288 := by omega
        have HX := Lib.hid (⟨hv, hlt⟩ : _ ∧ _)
        clear hv hlt hcb
        by_cases hbad : v < 0 ∨ 1048576 < v
        · have hmv : mayV f (mm : Int) = 1 := by rw [HV.out, if_pos (bad_at (by rw [← HNF.out]; exact HX.out.2) (by rw [HX.out.1]; exact hbad))]
          have HMV := Lib.hid hmv
          have hb2 : v < 0 ∨ (¬ v < 0 ∧ 1048576 < v) := by omega
          clear hbad hmv
          rcases hb2 with g1 | ⟨g1, g2⟩
          all_goals
            go_wp2_with fail
            go_ret
            exact ⟨ret_int HMV.out.symm, rfl⟩
        · have g1 : ¬ v < 0 := by omega
          have g2 : ¬ 1048576 < v := by omega
          clear hbad
          by_cases hp : 0 < v
          · have hps : posI f (i + 1) = posI f i ++ [(i : Int)] := by rw [posI, if_pos (by rw [HX.out.1]; exact hp)]
            have HPS := Lib.hid hps
            clear hps
            go_wp2_with fail
            go_roundg (n - (i + 1))
            case measure => have := hk.out; have := HX.out.2; omega
            case rel => exact ⟨i + 1, c + 1, by go_num, by go_num, rfl, HX.out.2, by show _ = _; rw [HPS.out, List.length_append, ← hc.out]; rfl, fun j hj => by
              by_cases e : j = i
              · subst e; rw [HX.out.1]; omega
              · exact hall.out j (by omega), rfl⟩
          · have hps : posI f (i + 1) = posI f i := by rw [posI, if_neg (by rw [HX.out.1]; exact hp), List.append_nil]
            have HPS := Lib.hid hps
            clear hps
            go_wp2_with fail
            go_roundg (n - (i + 1))
            case measure => have := hk.out; have := HX.out.2; omega
            case rel => exact ⟨i + 1, c, rfl, by go_num, rfl, HX.out.2, by show _ = _; rw [HPS.out]; exact hc.out, fun j hj => by
              by_cases e : j = i
              · subst e; rw [HX.out.1]; omega
              · exact hall.out j (by omega), rfl⟩
      · obtain rfl : i = n := by omega
        have hltI : ¬ (i : Int) < (i : Int) := by omega
        have hmv : mayV f (mm : Int) = if T < c then 3 else 0 := by
          rw [HV.out, if_neg (by rw [bad_not (by rw [← HNF.out]; exact hall.out)]; decide), Int.toNat_natCast, HT.out, ← HNF.out, ← hc.out]
        have HMV := Lib.hid hmv
        have hcI : (0 : Int) ≤ c ∧ (c : Int) ≤ 288 := by have := hc.out; have := pos_len f i; omega
        clear hmv hlt
        by_cases hTc : T < c
        · have hTcI : (T : Int) < (c : Int) := by omega
          have HTC := Lib.hid hTc
          clear hTc
          go_wp2_with fail
          go_ret
          exact ⟨ret_int (by rw [HMV.out, if_pos HTC.out]), rfl⟩
        · have hTcI : ¬ (T : Int) < (c : Int) := by omega
          have HTC := Lib.hid hTc
          clear hTc
          go_wp2_with fail
          go_ret
          exact ⟨ret_int (by rw [HMV.out, if_neg HTC.out]), rfl⟩
end Go.Proofs.Ytlgkiookobedcaa
