/-
  The walk of the leaves: a pack of each symbol, sorted.
-/
import Derived.Test.YtckhkkjdibcclaaPk17
import Derived.Test.YtckhkkjdibcclaaPk3
import Derived.Test.YtckhkkjdibcclaaLimG
namespace Go.Proofs.Ytckhkkjdibcclaa
open Go.RowKit
set_option linter.unusedVariables false
inductive All2 {α β : Type} (R : α → β → Prop) : List α → List β → Prop
  | nil : All2 R [] []
  | cons {a : α} {b : β} {xs : List α} {ys : List β} : R a b → All2 R xs ys → All2 R (a :: xs) (b :: ys)
section
variable {α β : Type} {R R' : α → β → Prop} {xs cs : List α} {ys ds : List β}
theorem All2.length (h : All2 R xs ys) : xs.length = ys.length := by
  induction h with
  | nil => rfl
  | cons _ _ ih => rw [List.length_cons, List.length_cons, ih]
theorem All2.mono (h : All2 R xs ys) (hR : ∀ a ∈ xs, ∀ b, R a b → R' a b) : All2 R' xs ys := by
  induction h with
  | nil => exact .nil
  | cons h1 _ ih => exact .cons (hR _ List.mem_cons_self _ h1) (ih fun a ha => hR a (List.mem_cons_of_mem _ ha))
theorem All2.app (h : All2 R xs ys) (h' : All2 R cs ds) : All2 R (xs ++ cs) (ys ++ ds) := by
  induction h with
  | nil => exact h'
  | cons h1 _ ih => exact .cons h1 ih
theorem All2.one {a : α} {b : β} (h : R a b) : All2 R [a] [b] := .cons h .nil
theorem All2.perm (hp : cs.Perm xs) (h : All2 R xs ys) : ∃ ds, ds.Perm ys ∧ All2 R cs ds := by
  induction hp generalizing ys with
  | nil => exact ⟨ys, List.Perm.refl _, h⟩
  | cons x _ ih =>
    cases h with
    | cons h1 h2 =>
      obtain ⟨ds, hd, hh⟩ := ih h2
      exact ⟨_ :: ds, List.Perm.cons _ hd, .cons h1 hh⟩
  | swap x y l =>
    cases h with
    | cons h1 h2 => cases h2 with
      | cons h3 h4 => exact ⟨_, List.Perm.swap _ _ _, .cons h3 (.cons h1 h4)⟩
  | trans _ _ ih1 ih2 =>
    obtain ⟨d1, p1, r1⟩ := ih2 h
    obtain ⟨d2, p2, r2⟩ := ih1 r1
    exact ⟨d2, p2.trans p1, r2⟩
theorem All2.mem (h : All2 R xs ys) : ∀ b ∈ ys, ∃ a ∈ xs, R a b := by
  induction h with
  | nil => intro b hb; simp at hb
  | cons h1 _ ih =>
    intro b hb
    rcases List.mem_cons.1 hb with rfl | hb
    · exact ⟨_, List.mem_cons_self, h1⟩
    · obtain ⟨a, ha, hr⟩ := ih b hb
      exact ⟨a, List.mem_cons_of_mem _ ha, hr⟩
theorem All2.mem' (h : All2 R xs ys) : ∀ a ∈ xs, ∃ b ∈ ys, R a b := by
  induction h with
  | nil => intro b hb; simp at hb
  | cons h1 _ ih =>
    intro b hb
    rcases List.mem_cons.1 hb with rfl | hb
    · exact ⟨_, List.mem_cons_self, h1⟩
    · obtain ⟨a, ha, hr⟩ := ih b hb
      exact ⟨a, List.mem_cons_of_mem _ ha, hr⟩
end
/-- a pack in memory means one of the plain law -/
def MeanE (w : World) (B : Nat) (X : Nat → Prop) (e : El) (p : Pk) : Prop := e.1 = p.w ∧ RdI .i64 w B e.2.1 e.2.2.1 p.l ∧ (0 < e.2.2.1 → ∀ g, blkOf e.2.1 = some g → ¬ X g)
/-- a row of packs that is read, with what it means -/
def PckR (w : World) (B : Nat) (X : Nat → Prop) (A : Option Addr) (n : Nat) (L : List Pk) : Prop := ∃ D, RdP w B A n D ∧ All2 (MeanE w B X) D L
theorem PckR.below {w w' : World} {B n : Nat} {X : Nat → Prop} {A : Option Addr} {L : List Pk} (h : PckR w B X A n L) (hb : Below B w w') : PckR w' B X A n L := by
  obtain ⟨D, h1, h2⟩ := h
  exact ⟨D, h1.below hb, h2.mono fun e _ p hm => ⟨hm.1, hm.2.1.below hb, hm.2.2⟩⟩
theorem PckR.more {w : World} {B B' n : Nat} {X : Nat → Prop} {A : Option Addr} {L : List Pk} (h : PckR w B X A n L) (hB : B ≤ B') : PckR w B' X A n L := by
  obtain ⟨D, h1, h2⟩ := h
  exact ⟨D, h1.more hB, h2.mono fun e _ p hm => ⟨hm.1, hm.2.1.more hB, hm.2.2⟩⟩
theorem srt_mean {w : World} {B : Nat} {X : Nat → Prop} {D : List El} {L : List Pk} (h : All2 (MeanE w B X) D L) (hs : SrtE D) : Srt L := by
  induction h with
  | nil => exact List.Pairwise.nil
  | @cons a b xs ys h1 h2 ih =>
    obtain ⟨s1, s2⟩ := List.pairwise_cons.1 hs
    refine List.pairwise_cons.2 ⟨fun q hq => ?_, ih s2⟩
    obtain ⟨e, he, hm⟩ := h2.mem q hq
    have := (s1 e he).le
    rw [← h1.1, ← hm.1]
    exact this
theorem Own.ar {w : World} {b0 : Nat} {e : TypeId} {sz n c g : Nat} {f : Nat → Value} (h : Own w b0 e sz (some ⟨g, 0, none⟩) n c f) : Ar w g (n * sz) f := by
  rcases h with ⟨h1, _⟩ | ⟨g', cur, r1, r2, r3, r4, r5, r6, r7⟩
  · cases h1
  · injection r1 with r1; injection r1 with r1
    subst r1
    exact ⟨cur, e, (0, 0), r3, .inr rfl, by rw [r6]; exact Nat.mul_le_mul_right _ r4, r7⟩
theorem sortStable_any (w w0 : World) (g n c : Nat) (D0 : List El) (h : Dt w0 g n D0 w) (hn : n ≤ 1000) (hsm : Sm D0) (hasc : Asc D0) :
    Calls Try.prog 70 #[.slice (some ⟨g, 0, none⟩) n c, cmpF] w (StPost w0 g n D0) := by
  have HC := Lib.hid (stable_any w w0 g n c D0 h hn hsm hasc)
  clear h hsm hasc
  unfold cmpF at HC ⊢
  go_enter Try.func70, Try.ntmps70
  go_wp2_with fail
  refine HC.out.mono ?_
  rintro e w5 ⟨D, rfl, h⟩
  go_wp2_with fail
  go_end0
  exact ⟨D, rfl, h⟩
theorem sortStable_nil (w : World) (F : Value) :
    Calls Try.prog 70 #[.slice none 0 0, F] w fun e w' => e = .returned (.tuple #[]) ∧ w = w' := by
  have HC := Lib.hid (stable_nil w F)
  go_enter Try.func70, Try.ntmps70
  go_wp2_with fail
  refine HC.out.mono ?_
  rintro e w5 ⟨rfl, rfl⟩
  go_wp2_with fail
  go_end0
  exact ⟨rfl, rfl⟩
theorem RdP.litg {w : World} {g : Nat} (hg : g = w.heap.size) (a : Int) (A : Option Addr) (n c : Nat) (t : TypeId) : RdP (w.alloc (.cells #[.int .i64 a, .slice A n c] t)) (g + 1) (some ⟨g, 0, none⟩) 1 [(a, A, n, c)] := by
  subst hg
  exact RdP.lit w (a, A, n, c) t
/-- what is read stays, where its block does not turn -/
theorem MeanE.chg {w w' : World} {X X' S : Nat → Prop} {e : El} {p : Pk} (h : MeanE w w.heap.size X e p) (hc : Chg w w' S) (hS : ∀ g, S g → X g) (hX : ∀ g, g < w.heap.size → X' g → X g) : MeanE w' w'.heap.size X' e p := by
  refine ⟨h.1, (hc.rdI h.2.1 (Nat.le_refl _) (fun h0 ad e1 hs => h.2.2 h0 ad.block (by rw [e1]; rfl) (hS _ hs))).more hc.size, fun h0 g hg hx => ?_⟩
  obtain ⟨ad, e1, hlt, -⟩ := h.2.1.at_ (i := 0) h0
  rw [e1] at hg
  have hg' : ad.block = g := by simpa [blkOf] using hg
  exact h.2.2 h0 g (by rw [e1, ← hg']; rfl) (hX g (by omega) hx)
theorem perm_leafs {f : Int → Int} {L : List Pk} {S : List Int} (h : L.Perm (leafs f S)) : ∃ S', S'.Perm S ∧ L = leafs f S' := by
  refine ⟨L.map fun p => p.l.headD 0, ?_, ?_⟩
  · have := h.map (fun p : Pk => p.l.headD 0)
    refine this.trans ?_
    unfold leafs
    rw [List.map_map]
    have e : ((fun p : Pk => p.l.headD 0) ∘ fun s => (⟨f s, [s]⟩ : Pk)) = id := by funext s; rfl
    rw [e, List.map_id]
  · unfold leafs
    rw [List.map_map]
    conv => lhs; rw [← List.map_id L]
    refine List.map_congr_left fun p hp => ?_
    obtain ⟨s, hs, h1, h2⟩ := leafs_mem p (h.mem_iff.1 hp)
    obtain ⟨pw, pl⟩ := p
    simp only at h1 h2
    subst h1 h2
    rfl
/-- the symbols that come, among the first k -/
def posI (f : List Int) : Nat → List Int
  | 0 => []
  | k + 1 => posI f k ++ if 0 < ix f k then [(k : Int)] else []
/-- how often a symbol comes -/
def fqI (f : List Int) (s : Int) : Int := ix f s.toNat
section
variable {α β : Type} {R R' : α → β → Prop} {xs : List α} {ys : List β}
theorem All2.and (h : All2 R xs ys) (h' : All2 R' xs ys) : All2 (fun a b => R a b ∧ R' a b) xs ys := by
  induction h with
  | nil => exact .nil
  | cons h1 _ ih => cases h' with
    | cons h2 h3 => exact .cons ⟨h1, h2⟩ (ih h3)
theorem All2.flip (h : All2 R xs ys) : All2 (fun b a => R a b) ys xs := by
  induction h with
  | nil => exact .nil
  | cons h1 _ ih => exact .cons h1 ih
theorem All2.pw {Q : α → α → Prop} {Q' : β → β → Prop} (h : All2 R xs ys) (hx : xs.Pairwise Q) (H : ∀ a ∈ xs, ∀ a' ∈ xs, ∀ b ∈ ys, ∀ b' ∈ ys, R a b → R a' b' → Q a a' → Q' b b') : ys.Pairwise Q' := by
  induction h with
  | nil => exact List.Pairwise.nil
  | @cons a b xs ys h1 h2 ih =>
    obtain ⟨s1, s2⟩ := List.pairwise_cons.1 hx
    refine List.pairwise_cons.2 ⟨fun q hq => ?_, ih s2 fun a ha a' ha' b hb b' hb' => H a (List.mem_cons_of_mem _ ha) a' (List.mem_cons_of_mem _ ha') b (List.mem_cons_of_mem _ hb) b' (List.mem_cons_of_mem _ hb')⟩
    obtain ⟨e, he, hm⟩ := h2.mem q hq
    exact H a List.mem_cons_self e (List.mem_cons_of_mem _ he) b List.mem_cons_self q (List.mem_cons_of_mem _ hq) h1 hm (s1 e he)
end
theorem pos_lt {f : List Int} : ∀ k : Nat, ∀ s ∈ posI f k, 0 ≤ s ∧ s < (k : Int)
  | 0, s, h => by simp [posI] at h
  | k + 1, s, h => by
    rw [posI] at h
    rcases List.mem_append.1 h with h | h
    · have := pos_lt k s h; omega
    · split at h
      · have := List.mem_singleton.1 h; omega
      · simp at h
theorem pos_asc {f : List Int} : ∀ k : Nat, (posI f k).Pairwise (· < ·)
  | 0 => List.Pairwise.nil
  | k + 1 => by
    rw [posI]
    refine List.pairwise_append.2 ⟨pos_asc k, ?_, fun s hs t ht => ?_⟩
    · split
      · exact List.pairwise_singleton _ _
      · exact List.Pairwise.nil
    · split at ht
      · rw [List.mem_singleton.1 ht]; exact (pos_lt k s hs).2
      · simp at ht
/-- where each pack's symbol lies -/
def NumE (N : Int → Nat) (e : El) (p : Pk) : Prop := ps e = N (p.l.headD 0)
/-- packs of the first symbols, made one behind the other -/
def LvN (b : Nat) (f : List Int) (i : Nat) (D : List El) : Prop :=
  ∃ N : Int → Nat, All2 (NumE N) D (leafs (fqI f) (posI f i)) ∧ (∀ s ∈ posI f i, ∀ t ∈ posI f i, s < t → N s < N t) ∧ (∀ s ∈ posI f i, N s < b)
theorem LvN.mono {b b' : Nat} {f : List Int} {i : Nat} {D : List El} (h : LvN b f i D) (hb : b ≤ b') : LvN b' f i D := by
  obtain ⟨N, h1, h2, h3⟩ := h
  exact ⟨N, h1, h2, fun s hs => Nat.lt_of_lt_of_le (h3 s hs) hb⟩
theorem leafs_num {N N' : Int → Nat} {g : Int → Int} : ∀ {S : List Int} {D : List El}, (∀ s ∈ S, N' s = N s) → All2 (NumE N) D (leafs g S) → All2 (NumE N') D (leafs g S)
  | [], D, _, h => by cases h; exact .nil
  | s :: S, D, hs, h => by
    cases h with
    | cons h1 h2 => exact .cons (by show _ = N' s; rw [hs s List.mem_cons_self]; exact h1) (leafs_num (fun t ht => hs t (List.mem_cons_of_mem _ ht)) h2)
theorem LvN.push {b b' : Nat} {f : List Int} {i : Nat} {D : List El} {v : Int} (h : LvN b f i D) (hv : ix f i = v) (hp : 0 < v) (hb : b < b') : LvN b' f (i + 1) (D ++ [(v, some ⟨b, 0, none⟩, 1, 1)]) := by
  obtain ⟨N, h1, h2, h3⟩ := h
  have hps : posI f (i + 1) = posI f i ++ [(i : Int)] := by rw [posI, hv, if_pos hp]
  refine ⟨fun s => if s = (i : Int) then b else N s, ?_, fun s hs t ht hst => ?_, fun s hs => ?_⟩
  · rw [hps]
    unfold leafs at h1 ⊢
    rw [List.map_append]
    refine All2.app (leafs_num (fun s hs => ?_) h1) (All2.one ?_)
    · have := pos_lt i s hs
      exact if_neg (by omega)
    · show b = if (i : Int) = (i : Int) then b else _
      rw [if_pos rfl]
  · rw [hps] at hs ht
    have hlt : ∀ s, s ∈ posI f i → ¬ s = (i : Int) := fun s hs => by have := pos_lt i s hs; omega
    dsimp only
    rcases List.mem_append.1 hs with hs | hs <;> rcases List.mem_append.1 ht with ht | ht
    · rw [if_neg (hlt s hs), if_neg (hlt t ht)]; exact h2 s hs t ht hst
    · rw [if_neg (hlt s hs), if_pos (List.mem_singleton.1 ht)]; exact h3 s hs
    · have e1 := List.mem_singleton.1 hs
      have := pos_lt i t ht
      omega
    · have e1 := List.mem_singleton.1 hs
      have e2 := List.mem_singleton.1 ht
      omega
  · dsimp only
    rw [hps] at hs
    rcases List.mem_append.1 hs with hs | hs
    · rw [if_neg (by have := pos_lt i s hs; omega)]; have := h3 s hs; omega
    · rw [if_pos (List.mem_singleton.1 hs)]; exact hb
theorem leafs_pw {g : Int → Int} {S : List Int} {Q : Int → Int → Prop} {Q' : Pk → Pk → Prop} (h : S.Pairwise Q) (H : ∀ s t, Q s t → Q' ⟨g s, [s]⟩ ⟨g t, [t]⟩) : (leafs g S).Pairwise Q' := by
  unfold leafs
  rw [List.pairwise_map]
  exact h.imp fun hst => H _ _ hst
theorem LvN.asc {b : Nat} {f : List Int} {i : Nat} {D : List El} (h : LvN b f i D) : Asc D := by
  obtain ⟨N, h1, h2, h3⟩ := h
  refine h1.flip.pw (Q := fun p q => p.l.headD 0 < q.l.headD 0) (leafs_pw (pos_asc i) fun s t hst => hst) ?_
  intro p hp q hq e he e' he' r r' hpq
  have r1 : ps e = N (p.l.headD 0) := r
  have r2 : ps e' = N (q.l.headD 0) := r'
  obtain ⟨s, hs, e1, e2⟩ := leafs_mem p hp
  obtain ⟨t, ht, e3, e4⟩ := leafs_mem q hq
  rw [r1, r2, e2, e4]
  rw [e2, e4] at hpq
  exact Nat.le_of_lt (h2 s hs t ht hpq)
/-- the order of a stable sort -/
def StabS (f : List Int) (S : List Int) : Prop := S.Pairwise fun s t => fqI f s < fqI f t ∨ (fqI f s = fqI f t ∧ s ≤ t)
theorem StabS.le {f S : List Int} (h : StabS f S) : S.Pairwise fun s t => fqI f s ≤ fqI f t := h.imp fun h => by rcases h with h | h <;> omega
def LvR (w : World) (f : List Int) (m : Nat) (k : Nat) (v3 v8 : Value) (wr : World) : Prop :=
  ∃ (i q c : Nat) (A : Option Addr) (D : List El), v3 = .slice A q c ∧ v8 = .int .i64 i ∧ i ≤ m ∧ OwnP wr w.heap.size A q c D ∧ Below w.heap.size w wr ∧ Hid (All2 (MeanE wr wr.heap.size fun g => blkOf A = some g ∨ g < w.heap.size) D (leafs (fqI f) (posI f i))) ∧ q ≤ i ∧ Hid (k = m - i) ∧ Hid (LvN wr.heap.size f i D)
theorem lv_push {w wr w4 : World} {f : List Int} {i q c : Nat} {A A4 : Option Addr} {D : List El} {v : Int} (ho : OwnP wr w.heap.size A q c D) (hA : All2 (MeanE wr wr.heap.size fun g => blkOf A = some g ∨ g < w.heap.size) D (leafs (fqI f) (posI f i))) (hws : w.heap.size ≤ wr.heap.size) (hv : ix f i = v) (hp : 0 < v)
    (hg : ((wr.alloc (.cells #[.int .i64 (i : Nat)] 3)).alloc (.cells #[.int .i64 v, .slice (some ⟨wr.heap.size, 0, none⟩) 1 1] 101)).grownBy w4 (blkOf A)) (hat : blkOf A4 = blkOf A ∨ blkOf A4 = some ((wr.alloc (.cells #[.int .i64 (i : Nat)] 3)).alloc (.cells #[.int .i64 v, .slice (some ⟨wr.heap.size, 0, none⟩) 1 1] 101)).heap.size) :
    All2 (MeanE w4 w4.heap.size fun g => blkOf A4 = some g ∨ g < w.heap.size) (D ++ [(v, some ⟨wr.heap.size, 0, none⟩, 1, 1)]) (leafs (fqI f) (posI f (i + 1))) := by
  have hlt : ∀ g, blkOf A = some g → g < wr.heap.size := fun g hg => (ho.2.lt hg).2
  have hc1 : Chg (wr.alloc (.cells #[.int .i64 (i : Nat)] 3)) w4 (fun g => blkOf A = some g) := ((Chg.refl _ _).alloc _).grown hg (fun k hk => .inl hk)
  have hc0 : Chg wr w4 (fun g => blkOf A = some g) := (((Chg.refl _ _).alloc _).alloc _).grown hg (fun k hk => .inl hk)
  rw [show posI f (i + 1) = posI f i ++ [(i : Int)] by rw [posI, hv, if_pos hp]]
  unfold leafs at hA ⊢
  rw [List.map_append]
  refine (hA.mono fun e _ p hm => hm.chg hc0 (fun g hg => .inl hg) (fun g hg hx => ?_)).app (All2.one ?_)
  · rcases hx with hx | hx
    · rcases hat with e | e
      · left; rw [← e]; exact hx
      · rw [e] at hx; injection hx with hx; simp at hx; omega
    · exact .inr hx
  · refine ⟨?_, ?_, fun _ g hgb hx => ?_⟩
    · show v = fqI f i
      unfold fqI
      rw [Int.toNat_natCast, hv]
    · have h1 := RdI.lit .i64 wr [(i : Int)] 3
      exact (hc1.rdI h1 (by simp) (fun _ ad e1 hs => by injection e1 with e1; subst e1; exact absurd (hlt _ hs) (Nat.lt_irrefl _))).more (by have := hc1.size; simp at this; omega)
    · have hgw : wr.heap.size = g := by simpa [blkOf] using hgb
      rcases hx with hx | hx
      · rcases hat with e | e
        · rw [e] at hx; have := hlt _ hx; omega
        · rw [e] at hx; injection hx with hx; simp at hx; omega
      · omega
def LvPost (w : World) (f : List Int) (m : Nat) (e : Ending) (w' : World) : Prop :=
  ∃ A q c S, e = .returned (.slice A q c) ∧ Below w.heap.size w w' ∧ PckR w' w'.heap.size (fun g => g < w.heap.size) A q (leafs (fqI f) S) ∧ ((A = none ∧ q = 0) ∨ ∃ g, A = some ⟨g, 0, none⟩ ∧ w.heap.size ≤ g ∧ g < w'.heap.size) ∧ S.Perm (posI f m) ∧ StabS f S ∧ q ≤ c
set_option maxRecDepth 100000 in
set_option maxHeartbeats 4000000 in
theorem leaves_any (w : World) (C : Option Addr) (m d : Nat) (f : List Int) (hr : RdI .i64 w w.heap.size C m f) (hm : m ≤ 1000) (hf : ∀ i, i < m → 0 ≤ ix f i ∧ ix f i ≤ 1048576) :
    Calls Try.prog 62 #[.slice C m d] w (LvPost w f m) := by
  obtain ⟨i0, hi, hz0, hz1, hz2⟩ := info_parts pck_info
  have Hi := Lib.hid hi
  have Hz0 := Lib.hid hz0
  have Hz1 := Lib.hid hz1
  have Hz2 := Lib.hid hz2
  have hmI : (0 : Int) ≤ m ∧ (m : Int) ≤ 1000 := by omega
  have HF := Lib.hid hf
  have HM := Lib.hid hm
  clear hi hz0 hz1 hz2 hf hm
  go_enter Try.func62, Try.ntmps62
  go_wp2_with fail
  go_loopg [3, 8] m (LvR w f m)
  case atStart => exact ⟨0, 0, 0, none, [], rfl, rfl, Nat.zero_le _, OwnP.nil_, Below.refl _ _, .nil, Nat.le_refl _, rfl, ⟨fun _ => 0, .nil, fun s hs => by simp [posI] at hs, fun s hs => by simp [posI] at hs⟩⟩
  case round =>
    obtain ⟨i, q, c, A, D, rfl, rfl, him, ho, hb, hA, hq, hk, hN⟩ := hrel
    by_cases hlt : i < m
    · have hltI : (i : Int) < (m : Int) ∧ (0 : Int) ≤ i := by omega
      obtain ⟨v, hv⟩ : ∃ v, ix f i = v := ⟨_, rfl⟩
      obtain ⟨ad, rfl, hadb, hcv⟩ := hr.at_ (i := i) hlt
      rw [hv] at hcv
      have hcv2 : wr.cell? (ad.add i) = some (.int .i64 v) := (hb.cell (p := ad.add i) (by rw [addr_block]; exact hadb)).trans hcv
      have hvb := HF.out i hlt
      rw [hv] at hvb
      have HV := Lib.hid (⟨hv, hlt⟩ : _ ∧ _)
      clear hcv hv hlt
      by_cases hp : 0 < v
      · have ho2 := (ho.alloc (.cells #[.int .i64 (i : Nat)] 3)).alloc (.cells #[.int .i64 v, .slice (some ⟨wr.heap.size, 0, none⟩) 1 1] 101)
        have hlit := RdP.litg (w := wr.alloc (.cells #[.int .i64 (i : Nat)] 3)) (g := wr.heap.size + 1) (by simp) v (some ⟨wr.heap.size, 0, none⟩) 1 1 101
        have hb2 : Below w.heap.size w ((wr.alloc (.cells #[.int .i64 (i : Nat)] 3)).alloc (.cells #[.int .i64 v, .slice (some ⟨wr.heap.size, 0, none⟩) 1 1] 101)) := (hb.alloc hb.size _).alloc (Nat.le_trans hb.size (by simp)) _
        have hq1 : q + 1 ≤ 1000000000000 := by have := HM.out; omega
        go_wp2_with (at_builtin; (refine wpList_appP w.heap.size i0 rfl (.tmp 15) (.tmp 20) rfl Hi.out Hz0.out Hz1.out Hz2.out rfl ho2 rfl hlit hq1 hb2.size ?_); intro A4 d4 w4 hown4 hg4 hat4)
        go_roundg (m - (i + 1))
        case measure => have := hk.out; have := HV.out.2; omega
        case rel => exact ⟨i + 1, q + 1, d4, A4, _, rfl, by go_num, HV.out.2, hown4, hb2.grown hg4 hb2.size (fun k hk => (ho.2.lt hk).1), lv_push ho hA.out hb.size HV.out.1 hp hg4 hat4, by omega, rfl, hN.out.push HV.out.1 hp (by have h1 := hg4.size; simp at h1; omega)⟩
      · have hps : posI f (i + 1) = posI f i := by rw [posI, if_neg (by rw [HV.out.1]; exact hp), List.append_nil]
        have HPS := Lib.hid hps
        clear hps
        go_wp2_with fail
        go_roundg (m - (i + 1))
        case measure => have := hk.out; have := HV.out.2; omega
        case rel => exact ⟨i + 1, q, c, A, D, rfl, by go_num, HV.out.2, ho, hb, by show All2 _ _ _; rw [HPS.out]; exact hA.out, by omega, rfl, by have h1 := hN.out; unfold LvN at h1 ⊢; rw [HPS.out]; exact h1⟩
    · obtain rfl : i = m := by omega
      have hltI : ¬ (i : Int) < (i : Int) := by omega
      have hA := hA.out
      have hcap := ho.2.capLe
      have hsm : Sm D := fun e he => by
        obtain ⟨p, hp, hm⟩ := hA.mem' e he
        obtain ⟨s, hs, h1, h2⟩ := leafs_mem p hp
        rw [hm.1, h1]
        unfold fqI
        by_cases hsi : s.toNat < i
        · have := HF.out _ hsi; omega
        · have : ix f s.toNat = 0 := by
            have hl := hr.1
            unfold ix
            rw [List.getD_eq_getElem?_getD, List.getElem?_eq_none (by omega)]
            rfl
          rw [this]; omega
      rcases ho.2 with ⟨hn1, hn2, hn3⟩ | ⟨g, cur, rfl, hrest⟩
      · subst hn1 hn2 hn3
        have hD : D = [] := List.eq_nil_of_length_eq_zero ho.1.symm
        subst hD
        have hS : posI f i = [] := by
          have := hA.length
          rw [leafs_length] at this
          exact List.eq_nil_of_length_eq_zero this.symm
        have HP := Lib.hid (⟨hb, hS⟩ : _ ∧ _)
        clear hA hsm ho hb
        go_wp2_with fail
        refine (sortStable_nil _ _).mono ?_
        rintro e w5 ⟨rfl, rfl⟩
        go_wp2_with fail
        go_ret
        exact ⟨none, 0, 0, [], rfl, HP.out.1, ⟨[], ⟨rfl, fun h0 => by omega⟩, .nil⟩, .inl ⟨rfl, rfl⟩, by rw [HP.out.2], List.Pairwise.nil, Nat.le_refl _⟩
      · have hdt : Dt wr g q D wr := ⟨ho.1.symm, Chg.refl _ _, Own.ar ho.2⟩
        have HC := Lib.hid (sortStable_any wr wr g q c D hdt (by have := HM.out; omega) hsm hN.out.asc)
        have hgl : w.heap.size ≤ g := (ho.2.lt rfl).1
        have HA := Lib.hid (⟨hA, hcap, hgl, hb⟩ : _ ∧ _ ∧ _ ∧ _)
        clear hA hcap hgl hdt hsm ho hb
        unfold cmpF at HC
        go_wp2_with fail
        refine HC.out.mono ?_
        rintro e w5 ⟨D', rfl, hd5, hs5, hp5⟩
        go_wp2_with fail
        go_ret
        obtain ⟨hA, hcap, hgl, hb⟩ := HA.out
        obtain ⟨N, n1, n2, n3⟩ := hN.out
        obtain ⟨L', hL1, hL12⟩ := All2.perm hp5 (hA.and n1)
        obtain ⟨S, hS1, rfl⟩ := perm_leafs hL1
        have hL2 := hL12.mono fun e _ p hm => hm.1
        have hstab : (leafs (fqI f) S).Pairwise fun p q => p.w < q.w ∨ (p.w = q.w ∧ p.l.headD 0 ≤ q.l.headD 0) := hL12.pw hs5 fun e he e' he' p hp q hq r r' hee => by
          obtain ⟨s, hs, e1, e2⟩ := leafs_mem p hp
          obtain ⟨t, ht, e3, e4⟩ := leafs_mem q hq
          have r1 : ps e = N (p.l.headD 0) := r.2
          have r2 : ps e' = N (q.l.headD 0) := r'.2
          have w1 : e.1 = p.w := r.1.1
          have w2 : e'.1 = q.w := r'.1.1
          rcases hee with h | ⟨h, h'⟩
          · left; omega
          · right
            refine ⟨by omega, ?_⟩
            rw [e2, e4]
            rw [r1, r2, e2, e4] at h'
            rcases Int.lt_or_le t s with h9 | h9
            · have := n2 t (hS1.mem_iff.1 ht) s (hS1.mem_iff.1 hs) h9
              have h10 : N s ≤ N t := h'
              omega
            · exact h9
        have hL3 : All2 (MeanE w5 w5.heap.size fun g => g < w.heap.size) D' (leafs (fqI f) S) := hL2.mono fun e _ p hm => hm.chg hd5.chg (fun k hk => by subst hk; exact .inl rfl) (fun _ _ h => .inr h)
        refine ⟨some ⟨g, 0, none⟩, q, c, S, rfl, hb.trans (hd5.chg.below (fun k hk => by subst hk; exact hgl) hb.size), ⟨D', ⟨hd5.len.symm, ?_⟩, hL3⟩, .inr ⟨g, rfl, hgl, hd5.lt⟩, hS1, ?_, hcap⟩
        · exact hd5.ar.rd hd5.lt (Nat.le_refl _)
        · unfold leafs at hstab
          rw [List.pairwise_map] at hstab
          exact hstab
end Go.Proofs.Ytckhkkjdibcclaa
