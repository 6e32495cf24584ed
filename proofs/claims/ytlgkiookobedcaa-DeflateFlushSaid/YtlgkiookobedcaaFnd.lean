/-
  The finder in memory; the walks of what only reads it: get, end, Waiting, hash, same.
-/
import Derived.Test.YtlgkiookobedcaaProg
import Derived.Test.YtlgkiookobedcaaPk3
import Derived.Maps.OwnSet
import Derived.Maps.Views
import Derived.Deep.DeepCutAuto
import Derived.BigFrame
import Derived.Laws.BitsAllLaws
namespace Go.Proofs.Ytlgkiookobedcaa
open Go.RowKit Go.Maps
set_option linter.unusedVariables false
theorem fbyte2_info : (Try.prog.info? 5).map (fun i => (i.zero, i.size, i.bytes)) = some (some (.int .u8 0), 1, 1) := by kernel_rfl
theorem fint_info : (Try.prog.info? 3).map (fun i => (i.zero, i.size, i.bytes)) = some (some (.int .i64 0), 1, 8) := by kernel_rfl
def ff (e : Eff) (A : Option Addr) (n c base at_ gm : Nat) (Ap : Option Addr) (np cp : Nat) : Nat → Value
  | 0 => .int .i64 e.chain
  | 1 => .int .i64 e.nice
  | 2 => .bool e.lazy
  | 3 => .slice A n c
  | 4 => .int .i64 base
  | 5 => .int .i64 at_
  | 6 => .map (some gm)
  | _ => .slice Ap np cp
def HeadRep (D : DataW Unit) (head : Int → Option Int) : Prop :=
  IsMap D ∧ ∀ x : Int, Maps.has D (.int .u32 x) = (head x).isSome ∧ D.atKey (.int .u32 x) (.lit (.int .i64 0)) = .lit (.int .i64 ((head x).getD 0))
theorem HeadRep.new : HeadRep (.map []) (fun _ => none) := ⟨isMap_empty, fun x => ⟨rfl, rfl⟩⟩
theorem HeadRep.put {D : DataW Unit} {head : Int → Option Int} (h : HeadRep D head) (y v : Int) (hk : WideAt.IsKeyLit (.int .u32 y)) : HeadRep (D.put (.int .u32 y) (.lit (.int .i64 v))) (fun x => if x = y then some v else head x) := by
  refine ⟨h.1.put _ _, fun x => ?_⟩
  by_cases e : x = y
  · subst e
    rw [has_put_same h.1 hk, atKey_put_same h.1 hk]
    simp
  · have hne : (Lit.int .u32 x) ≠ Lit.int .u32 y := fun h2 => e (by injection h2)
    rw [has_put_other hne, atKey_put_other hne]
    simp only [if_neg e]
    exact h.2 x
structure FndC (w : World) (b0 g : Nat) (e : Eff) (st : FSt) (b : Nat) (A : Option Addr) (n c gm nm : Nat) (Dm : DataW Unit) (Ap : Option Addr) (np cp : Nat) : Prop where
  cell : Ar w g 8 (ff e A n c st.base st.at_ gm Ap np cp)
  lo : b0 ≤ g
  own : OwnI .u8 w b0 5 A n c (st.D.drop st.base)
  ownp : OwnI .i64 w b0 3 Ap np cp (st.P.drop st.base)
  map : w.ownsMap Try.prog 47 (plainElem Try.prog 3) gm nm Dm
  rep : HeadRep Dm st.head
  glo : b0 ≤ gm
  nmb : nm ≤ b
  d1 : blkOf A ≠ some g
  d2 : blkOf Ap ≠ some g
  d3 : gm ≠ g
  d4 : ∀ q, blkOf A = some q → blkOf Ap ≠ some q
  d5 : blkOf A ≠ some gm
  d6 : blkOf Ap ≠ some gm
  ok : st.Ok b
  by_ : ∀ x ∈ st.D, 0 ≤ x ∧ x < 256
  eb : e.chain ≤ 256 ∧ e.nice ≤ 258
  big : st.D.length ≤ 100000000000
def FF (A : Option Addr) (gm : Nat) (Ap : Option Addr) (g k : Nat) : Prop := k = g ∨ k = gm ∨ blkOf A = some k ∨ blkOf Ap = some k
theorem map_keep {w w' : World} {k : TypeId} {R : Value → Option (DataW Unit × List MemPlace)} {gm nm : Nat} {D : DataW Unit} (h : w.ownsMap Try.prog k R gm nm D) (hb : w'.heap[gm]? = w.heap[gm]?) : w'.ownsMap Try.prog k R gm nm D := by
  obtain ⟨es, clock, h1, r⟩ := h
  exact ⟨es, clock, hb.trans h1, r⟩
section
variable {w w' : World} {b0 g b n c gm nm np cp : Nat} {e : Eff} {st : FSt} {A Ap : Option Addr} {Dm : DataW Unit}
theorem FndC.foot_lo (h : FndC w b0 g e st b A n c gm nm Dm Ap np cp) {k : Nat} (hk : FF A gm Ap g k) : b0 ≤ k ∧ k < w.heap.size := by
  rcases hk with rfl | rfl | hk | hk
  · exact ⟨h.lo, h.cell.lt⟩
  · exact ⟨h.glo, h.map.lt⟩
  · exact h.own.2.lt hk
  · exact h.ownp.2.lt hk
theorem FndC.chg {S : Nat → Prop} (h : FndC w b0 g e st b A n c gm nm Dm Ap np cp) (hc : Chg w w' S) (hS : ∀ k, FF A gm Ap g k → ¬ S k) : FndC w' b0 g e st b A n c gm nm Dm Ap np cp :=
  ⟨hc.ar h.cell (hS g (.inl rfl)), h.lo, hc.ownI h.own fun q hq => hS q (.inr (.inr (.inl hq))), hc.ownI h.ownp fun q hq => hS q (.inr (.inr (.inr hq))), map_keep h.map (hc.block gm h.map.lt (hS gm (.inr (.inl rfl)))), h.rep, h.glo, h.nmb, h.d1, h.d2, h.d3, h.d4, h.d5, h.d6, h.ok, h.by_, h.eb, h.big⟩
theorem FndC.keeps (h : FndC w b0 g e st b A n c gm nm Dm Ap np cp) (hb : Below w.heap.size w w') : FndC w' b0 g e st b A n c gm nm Dm Ap np cp :=
  h.chg (S := fun _ => False) (Chg.of_below hb) fun _ _ => id
theorem FndC.drewN (h : FndC w b0 g e st b A n c gm nm Dm Ap np cp) (q : Nat) : FndC (w.drewN q) b0 g e st b A n c gm nm Dm Ap np cp := h.keeps (below_drewN (Below.refl _ w) q)
theorem FndC.n_eq (h : FndC w b0 g e st b A n c gm nm Dm Ap np cp) : n + st.base = st.D.length := by
  have h1 := h.own.1; have := h.ok.lo; have := h.ok.hi
  rw [List.length_drop] at h1; omega
theorem FndC.np_eq (h : FndC w b0 g e st b A n c gm nm Dm Ap np cp) : np = n := by
  rw [h.ownp.1, h.own.1, List.length_drop, List.length_drop, h.ok.len]
theorem FndC.base_le (h : FndC w b0 g e st b A n c gm nm Dm Ap np cp) : st.base ≤ st.D.length := Nat.le_trans h.ok.lo h.ok.hi
theorem FndC.byte (h : FndC w b0 g e st b A n c gm nm Dm Ap np cp) {i : Nat} (hi : i < n) : ∃ gd, A = some ⟨gd, 0, none⟩ ∧ w.cell? ⟨gd, i, none⟩ = some (.int .u8 (ix st.D (st.base + i))) := by
  obtain ⟨gd, rfl⟩ := h.own.2.addr (by omega)
  refine ⟨gd, rfl, ?_⟩
  have := h.own.2.cell (i := i) (by omega)
  rw [ix_drop] at this
  exact this
theorem FndC.place (h : FndC w b0 g e st b A n c gm nm Dm Ap np cp) {i : Nat} (hi : i < n) : ∃ gd, Ap = some ⟨gd, 0, none⟩ ∧ w.cell? ⟨gd, i, none⟩ = some (.int .i64 (ix st.P (st.base + i))) := by
  have hnp := h.np_eq
  obtain ⟨gd, rfl⟩ := h.ownp.2.addr (by omega)
  refine ⟨gd, rfl, ?_⟩
  have := h.ownp.2.cell (i := i) (by omega)
  rw [ix_drop] at this
  exact this
theorem ff_c (h : FndC w b0 g e st b A n c gm nm Dm Ap np cp) : w.cell? ⟨g, 0, none⟩ = some (.int .i64 e.chain) ∧ w.cell? ⟨g, 1, none⟩ = some (.int .i64 e.nice) ∧ w.cell? ⟨g, 2, none⟩ = some (.bool e.lazy) ∧ w.cell? ⟨g, 3, none⟩ = some (.slice A n c) ∧ w.cell? ⟨g, 4, none⟩ = some (.int .i64 st.base) ∧
    w.cell? ⟨g, 5, none⟩ = some (.int .i64 st.at_) ∧ w.cell? ⟨g, 6, none⟩ = some (.map (some gm)) ∧ w.cell? ⟨g, 7, none⟩ = some (.slice Ap np cp) :=
  ⟨h.cell.cell (i := 0) (by omega), h.cell.cell (i := 1) (by omega), h.cell.cell (i := 2) (by omega), h.cell.cell (i := 3) (by omega), h.cell.cell (i := 4) (by omega), h.cell.cell (i := 5) (by omega), h.cell.cell (i := 6) (by omega), h.cell.cell (i := 7) (by omega)⟩
theorem get_any (h : FndC w b0 g e st b A n c gm nm Dm Ap np cp) (p : Nat) (hp : st.base ≤ p) (hp2 : p < st.D.length) :
    Calls Try.prog 54 #[.pointer (some ⟨g, 0, none⟩), .int .i64 p] w fun r w' => r = .returned (.int .u8 (ix st.D p)) ∧ ∃ q, w' = w.drewN q := by
  obtain ⟨-, -, -, c3, c4, -, -, -⟩ := ff_c h
  obtain ⟨i, rfl⟩ : ∃ i, p = st.base + i := ⟨p - st.base, by omega⟩
  have hin : i < n := by have := h.n_eq; omega
  obtain ⟨gd, rfl, cb⟩ := h.byte hin
  have hb := h.big
  obtain ⟨B, hB⟩ : ∃ B, st.base = B := ⟨_, rfl⟩
  obtain ⟨v, hv⟩ : ∃ v, ix st.D (st.base + i) = v := ⟨_, rfl⟩
  rw [hv] at cb ⊢
  rw [hB] at c4 ⊢
  have hI : ((B + i : Nat) : Int) - (B : Int) = (i : Int) := by omega
  have hb2 : (0 : Int) ≤ i ∧ (i : Int) < n ∧ ((B + i : Nat) : Int) ≤ 100000000000 ∧ (0 : Int) ≤ B := by omega
  obtain ⟨P, hP⟩ : ∃ P, B + i = P := ⟨_, rfl⟩
  rw [hP] at hI hb2 ⊢
  have hw : IntKind.i64.wrap ((P : Int) - (B : Int)) = (i : Int) := by rw [IntWalk.i64_in _ (by omega), hI]
  clear hP hv hB
  go_enter Try.func54, Try.ntmps54
  go_wp2
  go_quiet (fail)
  go_wp2
  go_ret
  exact ⟨rfl, _, rfl⟩
theorem end_any (h : FndC w b0 g e st b A n c gm nm Dm Ap np cp) :
    Calls Try.prog 56 #[.pointer (some ⟨g, 0, none⟩)] w fun r w' => r = .returned (.int .i64 st.D.length) ∧ ∃ q, w' = w.drewN q := by
  obtain ⟨-, -, -, c3, c4, -, -, -⟩ := ff_c h
  have hb := h.big
  have hn := h.n_eq
  obtain ⟨B, hB⟩ : ∃ B, st.base = B := ⟨_, rfl⟩
  obtain ⟨L, hL⟩ : ∃ L, st.D.length = L := ⟨_, rfl⟩
  rw [hB] at c4 hn
  rw [hL] at hb hn ⊢
  have hI : (B : Int) + (n : Int) = (L : Int) ∧ (0 : Int) ≤ B ∧ (0 : Int) ≤ n ∧ (L : Int) ≤ 100000000000 := by omega
  have hw : IntKind.i64.wrap ((B : Int) + (n : Int)) = (L : Int) := by rw [IntWalk.i64_in _ (by omega), hI.1]
  clear hB hL hn hb
  go_enter Try.func56, Try.ntmps56
  go_wp2
  go_quiet (fail)
  go_wp2
  go_ret
  exact ⟨rfl, _, rfl⟩
theorem waiting_any (h : FndC w b0 g e st b A n c gm nm Dm Ap np cp) :
    Calls Try.prog 40 #[.pointer (some ⟨g, 0, none⟩)] w fun r w' => r = .returned (.int .i64 ((st.D.length - st.at_ : Nat) : Int)) ∧ ∃ q, w' = w.drewN q := by
  obtain ⟨-, -, -, c3, c4, c5, -, -⟩ := ff_c h
  have hb := h.big
  have hn := h.n_eq
  have hhi := h.ok.hi
  obtain ⟨B, hB⟩ : ∃ B, st.base = B := ⟨_, rfl⟩
  obtain ⟨L, hL⟩ : ∃ L, st.D.length = L := ⟨_, rfl⟩
  obtain ⟨T, hT⟩ : ∃ T, st.at_ = T := ⟨_, rfl⟩
  rw [hB] at c4 hn
  rw [hT] at c5 hhi ⊢
  rw [hL] at hb hn hhi ⊢
  have hI : (B : Int) + (n : Int) = (L : Int) ∧ (0 : Int) ≤ B ∧ (0 : Int) ≤ n ∧ (L : Int) ≤ 100000000000 ∧ (0 : Int) ≤ T ∧ (T : Int) ≤ L := by omega
  have hI2 : Hid ((L : Int) - (T : Int) = ((L - T : Nat) : Int)) := by show _ = _; omega
  have hw : IntKind.i64.wrap ((B : Int) + (n : Int)) = (L : Int) := by rw [IntWalk.i64_in _ (by omega), hI.1]
  have hw2 : IntKind.i64.wrap ((L : Int) - (T : Int)) = (L : Int) - (T : Int) := by rw [IntWalk.i64_in _ (by omega)]
  clear hB hL hn hb hT hhi
  go_enter Try.func40, Try.ntmps40
  go_wp2
  go_quiet (fail)
  go_wp2
  go_ret
  exact ⟨ret_int (by rw [← hI2.out, ← hI.1]), _, rfl⟩
theorem or32 (a b k : Nat) (hb : b < 2 ^ k) (h : a * 2 ^ k + b < 4294967296) : bits .or .u32 ((a * 2 ^ k : Nat) : Int) (b : Int) = ((a * 2 ^ k + b : Nat) : Int) := by
  rw [u32_or_nat _ _ (by omega) (by omega), Nat.mul_comm, ← Nat.two_pow_add_eq_or_of_lt hb]
theorem or_bytes {u v x : Int} (hu : 0 ≤ u ∧ u < 256) (hv : 0 ≤ v ∧ v < 256) (hx : 0 ≤ x ∧ x < 256) : bits .or .u32 (bits .or .u32 (u * 65536) (v * 256)) x = u * 65536 + v * 256 + x := by
  obtain ⟨U, rfl⟩ := Int.eq_ofNat_of_zero_le hu.1
  obtain ⟨V, rfl⟩ := Int.eq_ofNat_of_zero_le hv.1
  obtain ⟨X, rfl⟩ := Int.eq_ofNat_of_zero_le hx.1
  have e1 : (U : Int) * 65536 = ((U * 2 ^ 16 : Nat) : Int) := by simp
  have e2 : (V : Int) * 256 = ((V * 256 : Nat) : Int) := by simp
  have e3 : U * 2 ^ 16 + V * 256 = (U * 256 + V) * 2 ^ 8 := by omega
  rw [e1, e2, or32 _ _ _ (by omega) (by omega), e3, or32 _ _ _ (by omega) (by omega)]
  omega
theorem hash_any (h : FndC w b0 g e st b A n c gm nm Dm Ap np cp) (p : Nat) (hp : st.base ≤ p) (hp2 : p + 3 ≤ st.D.length) :
    Calls Try.prog 70 #[.pointer (some ⟨g, 0, none⟩), .int .i64 p] w fun r w' => r = .returned (.int .u32 (hashAt st.D p)) ∧ ∃ q, w' = w.drewN q := by
  obtain ⟨-, -, -, c3, c4, -, -, -⟩ := ff_c h
  obtain ⟨i, rfl⟩ : ∃ i, p = st.base + i := ⟨p - st.base, by omega⟩
  have hn := h.n_eq
  obtain ⟨gd, rfl, cb0⟩ := h.byte (i := i) (by omega)
  obtain ⟨gd', e1, cb1⟩ := h.byte (i := i + 1) (by omega)
  cases e1
  obtain ⟨gd', e1, cb2⟩ := h.byte (i := i + 2) (by omega)
  cases e1
  have hb := h.big
  have hH : hashAt st.D (st.base + i) = hs3 (ix st.D (st.base + i)) (ix st.D (st.base + (i + 1))) (ix st.D (st.base + (i + 2))) := rfl
  have ixb : ∀ j, 0 ≤ ix st.D j ∧ ix st.D j < 256 := fun j => by
    unfold ix; rw [List.getD_eq_getElem?_getD]
    cases e : st.D[j]? with
    | none => simp
    | some v => exact h.by_ v (List.mem_of_getElem? e)
  have b0 := ixb (st.base + i)
  have b1 := ixb (st.base + (i + 1))
  have b2 := ixb (st.base + (i + 2))
  rw [hH]
  obtain ⟨B, hB⟩ : ∃ B, st.base = B := ⟨_, rfl⟩
  obtain ⟨u, hu⟩ : ∃ v, ix st.D (st.base + i) = v := ⟨_, rfl⟩
  obtain ⟨v, hv⟩ : ∃ v, ix st.D (st.base + (i + 1)) = v := ⟨_, rfl⟩
  obtain ⟨x, hx⟩ : ∃ v, ix st.D (st.base + (i + 2)) = v := ⟨_, rfl⟩
  rw [hu] at cb0 b0 ⊢
  rw [hv] at cb1 b1 ⊢
  rw [hx] at cb2 b2 ⊢
  rw [hB] at c4 hn hp2 ⊢
  have hI : ((B + i : Nat) : Int) - (B : Int) = (i : Int) := by omega
  have hb2 : (0 : Int) ≤ i ∧ (i : Int) + 2 < n ∧ ((B + i : Nat) : Int) ≤ 100000000000 ∧ (0 : Int) ≤ B ∧ (n : Int) ≤ 100000000000 := by omega
  obtain ⟨P, hP⟩ : ∃ P, B + i = P := ⟨_, rfl⟩
  rw [hP] at hI hb2 ⊢
  have hw : IntKind.i64.wrap ((P : Int) - (B : Int)) = (i : Int) := by rw [IntWalk.i64_in _ (by omega), hI]
  clear hP hv hB hu hx hH hp2 ixb hn
  go_enter Try.func70, Try.ntmps70
  go_wp2
  go_quiet (fail)
  go_wp2
  go_ret
  exact ⟨ret_int (by rw [or_bytes b0 b1 b2]; rfl), _, rfl⟩
def SameRel (w : World) (D : List Int) (a p M : Nat) (i : Value) (wr : World) : Prop :=
  ∃ k q : Nat, k ≤ M ∧ i = .int .i64 k ∧ Hid (smF D a p (M - k) k = smF D a p M 0) ∧ wr = w.drewN q
set_option maxHeartbeats 1600000 in
theorem sameN_any (h : FndC w b0 g e st b A n c gm nm Dm Ap np cp) (a p : Nat) (ha : st.base ≤ a) (hap : a ≤ p) (hp2 : p ≤ st.D.length) :
    Calls Try.prog 71 #[.pointer (some ⟨g, 0, none⟩), .int .i64 a, .int .i64 p] w fun r w' => r = .returned (.int .i64 (sameN st.D a p)) ∧ ∃ q, w' = w.drewN q := by
  have hb := h.big
  obtain ⟨L, hL⟩ : ∃ L, st.D.length = L := ⟨_, rfl⟩
  obtain ⟨M, hM⟩ : ∃ M, min 258 (L - p) = M := ⟨_, rfl⟩
  have hsm : Hid (sameN st.D a p = smF st.D a p M 0) := by show _ = _; unfold sameN; rw [hL, hM]
  have hMc : ((258 : Int) < (L : Int) - (p : Int) ∧ M = 258) ∨ ((L : Int) - (p : Int) < 258 ∧ (L : Int) - (p : Int) = (M : Int)) ∨ ((L : Int) - (p : Int) = 258 ∧ M = 258) := by omega
  have hend := fun W (hf : FndC W b0 g e st b A n c gm nm Dm Ap np cp) => end_any hf
  rw [hL] at hb hp2
  have hI : (0 : Int) ≤ a ∧ (a : Int) ≤ p ∧ (p : Int) ≤ L ∧ (L : Int) ≤ 100000000000 := by omega
  have HL := Lib.hid hL
  have HM := Lib.hid hM
  have hM2 : M ≤ 258 ∧ p + M ≤ L := by omega
  go_enter Try.func71, Try.ntmps71
  rw [hL] at hend
  clear hL hM
  go_upto_region 2 with fail
  go_cut [8] (fun s8 wx => s8 = .int .i64 M ∧ ∃ q, wx = w.drewN q)
  case first =>
    rcases hMc with ⟨h1, rfl⟩ | ⟨h1, h2⟩ | ⟨h1, rfl⟩
    all_goals
      go_wp2_with fail
      refine (hend w h).mono ?_
      rintro e w1 ⟨rfl, q1, rfl⟩
      go_wp2
      go_meet
      exact ⟨by first | rfl | (congr 1), q1, rfl⟩
  case rest =>
    obtain ⟨rfl, q0, rfl⟩ := hcut
    clear hMc
    go_wp2
    go_loopw [7] (SameRel w st.D a p M) (fun i _ => M - (intOf i).toNat)
    case atStart => exact ⟨0, q0, Nat.zero_le _, rfl, rfl, rfl⟩
    case round =>
      obtain ⟨k, q, hk, rfl, hsk, rfl⟩ := hrel
      have hfq := h.drewN q
      by_cases hlt : k < M
      · have hkI : (0 : Int) ≤ k ∧ (k : Int) < (M : Int) := by omega
        have hLL := HL.out
        have g1 := fun W (hf : FndC W b0 g e st b A n c gm nm Dm Ap np cp) => get_any hf (a + k) (by omega) (by omega)
        have g2 := fun W (hf : FndC W b0 g e st b A n c gm nm Dm Ap np cp) => get_any hf (p + k) (by omega) (by omega)
        have e1 : ((a + k : Nat) : Int) = (a : Int) + (k : Int) := by omega
        have e2 : ((p + k : Nat) : Int) = (p : Int) + (k : Int) := by omega
        obtain ⟨m, hm⟩ : ∃ m, M - k = m + 1 := ⟨M - k - 1, by omega⟩
        replace hsk := hsk.out
        rw [hm] at hsk
        have hu : smF st.D a p (m + 1) k = if ix st.D (a + k) = ix st.D (p + k) then smF st.D a p m (k + 1) else k := rfl
        rw [hu] at hsk
        obtain ⟨x, hx⟩ : ∃ x, ix st.D (a + k) = x := ⟨_, rfl⟩
        obtain ⟨y, hy⟩ : ∃ y, ix st.D (p + k) = y := ⟨_, rfl⟩
        rw [hx, hy] at hsk
        rw [hx] at g1
        rw [hy] at g2
        rw [e1] at g1
        rw [e2] at g2
        have hm2 : M - (k + 1) = m := by omega
        have HM2 := Lib.hid hm2
        clear hx hy hu hLL e1 e2 hm hm2
        by_cases he : x = y
        · subst he
          rw [if_pos rfl] at hsk
          have HSK := Lib.hid hsk
          clear hsk
          go_wp2_with fail
          refine (g1 _ hfq).mono ?_
          rintro e w1 ⟨rfl, q1, rfl⟩
          go_wp2_with fail
          refine (g2 _ (h.drewN (q + q1))).mono ?_
          rintro e w1 ⟨rfl, q2, rfl⟩
          go_wp2
          go_roundw
          case rel => exact ⟨k + 1, q + q1 + q2, by omega, by go_num, by show _ = _; rw [HM2.out]; exact HSK.out, rfl⟩
          case measure => simp [intOf]; omega
        · rw [if_neg he] at hsk
          have HSK := Lib.hid hsk
          clear hsk
          have he2 : (x == y) = false := by simpa using he
          clear he
          go_wp2_with fail
          refine (g1 _ hfq).mono ?_
          rintro e w1 ⟨rfl, q1, rfl⟩
          go_wp2_with fail
          refine (g2 _ (h.drewN (q + q1))).mono ?_
          rintro e w1 ⟨rfl, q2, rfl⟩
          go_wp2
          go_ret
          exact ⟨by rw [hsm.out, ← HSK.out]; rfl, q + q1 + q2, rfl⟩
      · obtain rfl : k = M := by omega
        replace hsk := hsk.out
        rw [Nat.sub_self] at hsk
        have HSK : Hid (k = smF st.D a p k 0) := hsk
        clear hsk
        go_wp2
        go_ret
        exact ⟨by rw [hsm.out, ← HSK.out]; rfl, q, rfl⟩
end
end Go.Proofs.Ytlgkiookobedcaa
