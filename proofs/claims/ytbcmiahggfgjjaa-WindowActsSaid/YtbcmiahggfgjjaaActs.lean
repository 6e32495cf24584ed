/-
  The walk of the statement WindowActs.
-/
import Derived.Test.YtbcmiahggfgjjaaProg
import Derived.Test.YtbcmiahggfgjjaaAns7
import Derived.Test.YtbcmiahggfgjjaaOpenA
import Derived.Test.YtbcmiahggfgjjaaExp
import Derived.Test.YtbcmiahggfgjjaaSlc
import Derived.Deep.DeepCutAuto
namespace Go.Proofs.Ytbcmiahggfgjjaa
open Go.RowKit
set_option linter.unusedVariables false

/-- what the outer loop keeps: all bytes so far, their own row; the window that knows their end -/
def WS (w0 : World) (g : Nat) (A C : Option Addr) (m d n1 c1 : Nat) (all wl : List Int) (w : World) : Prop :=
  OwnI .u8 w w0.heap.size 5 A m d all ∧ Win w w0.heap.size g C n1 c1 wl ∧ (∀ q, blkOf A = some q → ¬ foot C g q) ∧ Tail all wl ∧ Below w0.heap.size w0 w
theorem WS.keeps {w0 w w' : World} {g m d n1 c1 : Nat} {A C : Option Addr} {all wl : List Int} (h : WS w0 g A C m d n1 c1 all wl w) (hb : Below w.heap.size w w') : WS w0 g A C m d n1 c1 all wl w' :=
  ⟨h.1.keeps hb, h.2.1.keeps hb, h.2.2.1, h.2.2.2.1, h.2.2.2.2.trans (hb.mono h.2.2.2.2.size)⟩
theorem WS.min_ {w0 w : World} {g m d n1 c1 : Nat} {A C : Option Addr} {all wl : List Int} (h : WS w0 g A C m d n1 c1 all wl w) : ((min n1 32768 : Nat) : Int) = if 32768 < (m : Int) then 32768 else (m : Int) := by
  have h1 := h.2.2.2.1.len
  rw [← h.1.1, ← h.2.1.n_eq] at h1
  rw [h1]
  split <;> omega
/-- the cells of an act's own block -/
def af (t : ActV) : Nat → Value
  | 0 => .int .i64 t.do_
  | 1 => .int .i64 t.n
  | 2 => .int .i64 t.dist
  | 3 => .int .u16 t.times
  | _ => .slice t.A t.m t.d
theorem af_new (w : World) (t : ActV) (ty : TypeId) : Ar (w.alloc (.cells #[.int .i64 t.do_, .int .i64 t.n, .int .i64 t.dist, .int .u16 t.times, .slice t.A t.m t.d] ty)) w.heap.size 5 (af t) :=
  Ar.new w _ ty rfl fun i hi => by
    obtain rfl | rfl | rfl | rfl | rfl : i = 0 ∨ i = 1 ∨ i = 2 ∨ i = 3 ∨ i = 4 := by omega
    all_goals rfl

def ActRel (w0 : World) (g len : Nat) (o i : Value) (w : World) : Prop :=
  ∃ (k : Nat) (A C : Option Addr) (m d n1 c1 : Nat) (all wl : List Int), k ≤ len ∧ k ≤ 30 ∧ i = .int .i64 k ∧ o = .slice A m d ∧ WS w0 g A C m d n1 c1 all wl w ∧ Hid (m ≤ 100500 * k)

def CpRel (w0 : World) (g gb h : Nat) (C2 : Option Addr) (n2 c2 : Nat) (wl2 all cp : List Int) (D P : Nat) (t : ActV) (o j : Value) (wr : World) : Prop :=
  ∃ (k : Nat) (A5 : Option Addr) (M d5 : Nat), k ≤ P ∧ j = .int .i64 k ∧ o = .slice A5 M d5 ∧ OwnI .u8 wr w0.heap.size 5 A5 M d5 (all ++ again all D k) ∧ Win wr w0.heap.size g C2 n2 c2 wl2 ∧
    (∀ q, blkOf A5 = some q → ¬ foot C2 g q ∧ q ≠ gb ∧ q ≠ h) ∧ OwnI .u8 wr w0.heap.size 5 (some ⟨gb, 0, none⟩) P P cp ∧ Ar wr h 5 (af t) ∧ Below w0.heap.size w0 wr

theorem WS.chg {w0 w w' : World} {g m d n1 c1 : Nat} {A C : Option Addr} {all wl : List Int} {S : Nat → Prop} (h : WS w0 g A C m d n1 c1 all wl w) (hc : Chg w w' S) (hA : ∀ q, blkOf A = some q → ¬ S q) (hF : ∀ q, foot C g q → ¬ S q) (hS : ∀ k, S k → w0.heap.size ≤ k) : WS w0 g A C m d n1 c1 all wl w' :=
  ⟨hc.ownI h.1 hA, h.2.1.chg hc hF, h.2.2.1, h.2.2.2.1, h.2.2.2.2.trans (hc.below hS h.2.2.2.2.size)⟩
/-- the same without what ties the window to the bytes -/
def WW (w0 : World) (g : Nat) (A C : Option Addr) (m d n1 c1 : Nat) (all wl : List Int) (w : World) : Prop :=
  OwnI .u8 w w0.heap.size 5 A m d all ∧ Win w w0.heap.size g C n1 c1 wl ∧ (∀ q, blkOf A = some q → ¬ foot C g q) ∧ Below w0.heap.size w0 w
theorem WW.chg {w0 w w' : World} {g m d n1 c1 : Nat} {A C : Option Addr} {all wl : List Int} {S : Nat → Prop} (h : WW w0 g A C m d n1 c1 all wl w) (hc : Chg w w' S) (hA : ∀ q, blkOf A = some q → ¬ S q) (hF : ∀ q, foot C g q → ¬ S q) (hS : ∀ k, S k → w0.heap.size ≤ k) : WW w0 g A C m d n1 c1 all wl w' :=
  ⟨hc.ownI h.1 hA, h.2.1.chg hc hF, h.2.2.1, h.2.2.2.trans (hc.below hS h.2.2.2.size)⟩
theorem WW.keeps {w0 w w' : World} {g m d n1 c1 : Nat} {A C : Option Addr} {all wl : List Int} (h : WW w0 g A C m d n1 c1 all wl w) (hb : Below w.heap.size w w') : WW w0 g A C m d n1 c1 all wl w' :=
  ⟨h.1.keeps hb, h.2.1.keeps hb, h.2.2.1, h.2.2.2.trans (hb.mono h.2.2.2.size)⟩
theorem WW.drewN {w0 w : World} {g m d n1 c1 : Nat} {A C : Option Addr} {all wl : List Int} (h : WW w0 g A C m d n1 c1 all wl w) (q : Nat) : WW w0 g A C m d n1 c1 all wl (w.drewN q) := h.keeps (below_drewN (Below.refl _ _) q)
theorem size_alloc (w : World) (o : Obj) : (w.alloc o).heap.size = w.heap.size + 1 := by simp
theorem WW.ws {w0 w : World} {g m d n1 c1 : Nat} {A C : Option Addr} {all wl : List Int} (h : WW w0 g A C m d n1 c1 all wl w) (ht : Tail all wl) : WS w0 g A C m d n1 c1 all wl w := ⟨h.1, h.2.1, h.2.2.1, ht, h.2.2.2⟩
/-- a row of bytes that is turned byte by byte; what it holds is nobody's care -/
def TurnRel (w0 : World) (g P c6 m d n1 c1 : Nat) (A6 A C : Option Addr) (all wl : List Int) (h : Nat) (t : ActV) (j : Value) (wr : World) : Prop :=
  ∃ (k : Nat) (v : Nat → Int), k ≤ P ∧ j = .int .i64 k ∧ Own wr w0.heap.size 5 1 A6 P c6 (fun i => .int .u8 (v i)) ∧ WW w0 g A C m d n1 c1 all wl wr ∧ (∀ q, blkOf A6 = some q → blkOf A ≠ some q ∧ ¬ foot C g q ∧ h ≠ q) ∧ Ar wr h 5 (af t)
theorem TurnRel.next {w0 wr : World} {g gb P m d n1 c1 h k c : Nat} {A C : Option Addr} {all wl : List Int} {t : ActV} {v : Nat → Int} (hk : k < P) (o : Own wr w0.heap.size 5 1 (some ⟨gb, 0, none⟩) P c (fun i => .int .u8 (v i)))
    (hws : WW w0 g A C m d n1 c1 all wl wr) (hq : ∀ q, blkOf (some (⟨gb, 0, none⟩ : Addr)) = some q → blkOf A ≠ some q ∧ ¬ foot C g q ∧ h ≠ q) (har : Ar wr h 5 (af t)) (x : Int) {j : Value} (hj : j = .int .i64 (k + 1 : Nat)) :
    TurnRel w0 g P c m d n1 c1 (some ⟨gb, 0, none⟩) A C all wl h t j (wr.setCell ⟨gb, k, none⟩ (.int .u8 x)) := by
  obtain ⟨h1, h2, h3⟩ := hq gb rfl
  refine ⟨k + 1, fun i => if i = k then x else v i, hk, hj, (o.set_ (i := k) (by omega) (.int .u8 x)).congr fun i _ => ?_, ?_, hq, har.far (by simpa using h3) _⟩
  · unfold upd
    dsimp only
    split <;> rfl
  · exact hws.chg (S := fun q => q = gb) ((Chg.refl wr (fun q => q = gb)).setCell (p := ⟨gb, k, none⟩) (.inl rfl) _) (fun q hq e => h1 (e ▸ hq)) (fun q hq e => h2 (e ▸ hq)) (fun q hq => by rw [hq]; exact (o.lt (g := gb) rfl).1)
/-- what the inner loop of Add keeps -/
def AddRel (w0 : World) (g h k0 T : Nat) (t : ActV) (o j : Value) (w : World) : Prop :=
  ∃ (k : Nat) (A C : Option Addr) (m d n1 c1 : Nat) (all wl : List Int), k ≤ T + 1 ∧ j = .int .i64 k ∧ o = .slice A m d ∧ WS w0 g A C m d n1 c1 all wl w ∧ Hid (m ≤ 100500 * k0 + 500 * k) ∧ w0.heap.size ≤ h ∧ ¬ foot C g h ∧ (∀ q, blkOf A = some q → q ≠ h) ∧ Ar w h 5 (af t)

set_option maxRecDepth 100000 in
set_option maxHeartbeats 16000000 in
theorem windowActs_walk (A : Option Addr) (len cap : Nat) (l : List ActV) (N : Int) (w : World) (hll : l.length = len) (hr : ∀ i, i < len → ∃ ad, A = some ad ∧ RdAct w (ad.add (i * 5)) (actAt l i)) (hlen : len ≤ maxLen) (hN : (Lit.int .i64 N).wf = true) :
    Calls Try.prog 5 #[.slice A len cap, .int .i64 N] w fun e w' => e = .returned (.bool true) ∧ Below w.heap.size w w' := by
  have hlI : (len : Int) ≤ 9223372036854775807 := by unfold maxLen at hlen; omega
  clear hlen
  obtain ⟨i0, hi, hz0, hz1, hz2⟩ := info_parts wbyte_info
  have Hi := Lib.hid hi
  have Hz0 := Lib.hid hz0
  have Hz1 := Lib.hid hz1
  have Hz2 := Lib.hid hz2
  clear hi hz0 hz1 hz2
  go_enter Try.func5, Try.ntmps5
  go_wp2_with fail
  refine (winNew_any _).mono ?_
  rintro e w1 ⟨g, rfl, hw1, hb1⟩
  go_wp2_with fail
  refine (answers7_any _).mono ?_
  rintro e w2 ⟨rfl, hb2⟩
  have hb3 := hb1.trans (hb2.mono hb1.size)
  have hw2 := hw1.keeps hb2
  go_wp2_with fail
  go_loopw [6, 7] (ActRel w g len) (fun _ i _ => 30 - (intOf i).toNat)
  case atStart => exact ⟨0, none, none, 0, 0, 0, 0, [], [], Nat.zero_le _, Nat.zero_le _, rfl, rfl, ⟨OwnI.nil_, hw2, by simp [blkOf], Tail.nil_, hb3⟩, Nat.zero_le _⟩
  case round =>
    obtain ⟨k, A1, C, m, d, n1, c1, all, wl, hk, hk30, rfl, rfl, hws, HM⟩ := hrel
    by_cases hlt : k < len ∧ k < 30
    · obtain ⟨hlt1, hlt2⟩ := hlt
      have hk0 : (0 : Int) ≤ k ∧ (k : Int) < len ∧ (k : Int) < 30 := by omega
      obtain ⟨ad, rfl, hact⟩ := hr k hlt1
      obtain ⟨t, ht⟩ : ∃ t : ActV, actAt l k = t := ⟨_, rfl⟩
      rw [ht] at hact
      clear ht
      obtain ⟨z, x, y, u, B, bm, bd, b⟩ := t
      obtain ⟨a0, a1, a2, a3, a4, hal, ⟨hf0, hf1, hf2⟩, hrd, hle⟩ := hact
      dsimp only at a0 a1 a2 a3 a4 hf0 hf1 hf2 hrd hle
      have hbw := hws.2.2.2.2
      replace a0 := (hbw.cell hal).trans a0
      replace a1 := (hbw.cell (p := ⟨(ad.add (k * 5)).block, (ad.add (k * 5)).off + 1, none⟩) hal).trans a1
      replace a2 := (hbw.cell (p := ⟨(ad.add (k * 5)).block, (ad.add (k * 5)).off + 2, none⟩) hal).trans a2
      replace a3 := (hbw.cell (p := ⟨(ad.add (k * 5)).block, (ad.add (k * 5)).off + 3, none⟩) hal).trans a3
      replace a4 := (hbw.cell (p := ⟨(ad.add (k * 5)).block, (ad.add (k * 5)).off + 4, none⟩) hal).trans a4
      have har := af_new wr ⟨z, x, y, u, B, bm, bd, b⟩ 36
      have hwsa := hws.keeps ((Below.refl _ wr).alloc (Nat.le_refl _) (.cells #[.int .i64 z, .int .i64 x, .int .i64 y, .int .u16 u, .slice B bm bd] 36))
      dsimp only at har
      have htm : (bm : Int) ≤ 9223372036854775807 := by unfold maxLen at hle; omega
      by_cases hbig : 500 < (bm : Int)
      · go_wp2
        go_roundw
        case rel => exact ⟨k + 1, A1, C, m, d, n1, c1, all, wl, by omega, by omega, by go_num, rfl, hwsa, by have := HM.out; show _ ≤ _; omega⟩
        case measure => simp [intOf]; omega
      · have hs5 : bm ≤ 500 := by omega
        by_cases hdo1 : z = 1
        · subst hdo1
          obtain ⟨U, rfl⟩ := Int.eq_ofNat_of_zero_le (show 0 ≤ u by have := hf0; simp [Lit.wf, IntKind.min, IntKind.max, IntKind.signed, IntKind.bits] at this; omega)
          have hU : U ≤ 65535 := by have := hf0; simp [Lit.wf, IntKind.min, IntKind.max, IntKind.signed, IntKind.bits] at this; omega
          obtain ⟨T, hT⟩ : ∃ T : Nat, U % 200 = T := ⟨_, rfl⟩
          have hT2 : (U : Int) % 200 = (T : Int) := by omega
          have hTb : (T : Int) ≤ 199 := by omega
          clear hT
          have e0 := har.cell (i := 0) (by omega)
          have e3 := har.cell (i := 3) (by omega)
          have e4 := har.cell (i := 4) (by omega)
          unfold af at e0 e3 e4
          obtain ⟨wo, hwo⟩ : ∃ wo : World, wo = wr := ⟨_, rfl⟩
          subst hwo
          go_wp2_with fail
          go_loopw [6, 9] (AddRel w g wo.heap.size k T ⟨1, x, y, U, B, bm, bd, b⟩) (fun _ j _ => T + 1 - (intOf j).toNat)
          case atStart => exact ⟨0, A1, C, m, d, n1, c1, all, wl, by omega, rfl, rfl, hwsa, HM, hws.2.2.2.2.size, fun h => by have := (hws.2.1.foot_lo h).2; omega, fun q hq => by have := (hws.1.2.lt hq).2; omega, har⟩
          case round =>
            obtain ⟨j, A5, C5, M, d5, n5, c5, all5, wl5, hj, rfl, rfl, hws5, HM5, hh1, hh2, hh3, har5⟩ := hrel
            have e3 := har5.cell (i := 3) (by omega)
            have e4 := har5.cell (i := 4) (by omega)
            unfold af at e3 e4
            by_cases hjT : j ≤ T
            · have hjI : (j : Int) ≤ (T : Int) ∧ (0 : Int) ≤ j := by omega
              have hr5 : RdI .u8 wr w.heap.size B bm b := hrd.below hws5.2.2.2.2
              have hr5a := hr5.alloc hws5.2.2.2.2.size (.cells #[] 5)
              have hwsA := hws5.keeps ((Below.refl _ wr).alloc (Nat.le_refl _) (.cells #[] 5))
              have hol := OwnI.lit (k := .u8) (b0 := w.heap.size) (w := wr) rfl [] 5 hws5.2.2.2.2.size (by simp)
              have hapA := har5.alloc (.cells #[] 5)
              have e4A := hapA.cell (i := 4) (by omega)
              unfold af at e4A
              have hbI : (bm : Int) ≤ 500 ∧ (M : Int) ≤ 4000000 := by have := HM5.out; omega
              go_wp2_with (at_builtin; (refine wpList_app .u8 wr.heap.size 5 i0 1 rfl (.tmp 55) (.tmp 57) _ rfl Try.underlying22 Hi.out Hz0.out Hz1.out Hz2.out rfl (OwnI.lit rfl [] _ (Nat.le_refl _) (by simp)) rfl hr5a (by omega) (by omega) (by simp) ?_)
                           intro A6 d6 w6 hown6 hg6 hat6)
              rw [List.nil_append, Nat.zero_add] at hown6
              have hb6 : Below wr.heap.size wr w6 := ((Below.refl _ wr).alloc (Nat.le_refl _) _).grown hg6 (by simp) (by simp [blkOf])
              have hws6 := hws5.keeps hb6
              have har6 := har5.keeps hb6
              have hA6 : ∀ q, blkOf A6 = some q → wr.heap.size ≤ q := fun q hq => (hown6.2.lt hq).1
              go_wp2_with fail
              refine (winAdd_any _ _ _ _ _ _ _ _ _ _ _ _ hws6.2.1 hown6.rd (Nat.le_refl _) (by omega)).mono ?_
              rintro e w7 ⟨C7, n7, c7, rfl, hw7, hg7, hf7⟩
              have hww7 : WW w g A5 C7 M d5 n7 c7 all5 (addL wl5 b) w7 := ⟨hg7.ownI hws6.1 hws6.2.2.1, hw7, fun q hq hf => by
                rcases hf with rfl | hf
                · exact hws6.2.2.1 _ hq (.inl rfl)
                · rcases hf7 q hf with h2 | h2
                  · exact hws6.2.2.1 q hq (.inr h2)
                  · have := (hws6.1.2.lt hq).2; omega, hws6.2.2.2.2.trans (hg7.below (fun q hq => (hws6.2.1.foot_lo hq).1) hws6.2.2.2.2.size)⟩
              have hn6 : ∀ q, blkOf A6 = some q → ¬ foot C5 g q := fun q hq hf => by have := (hws5.2.1.foot_lo hf).2; have := hA6 q hq; omega
              have ho7 := (hg7.own hown6.2 hn6).more hws5.2.2.2.2.size
              have hq7 : ∀ q, blkOf A6 = some q → blkOf A5 ≠ some q ∧ ¬ foot C7 g q ∧ wo.heap.size ≠ q := fun q hq => by
                have h1 := hA6 q hq
                have h2 := (hown6.2.lt hq).2
                refine ⟨fun h => by have := (hws5.1.2.lt h).2; omega, fun hf => ?_, by have := har5.lt; omega⟩
                rcases hf with rfl | hf
                · exact hn6 _ hq (.inl rfl)
                · rcases hf7 q hf with h3 | h3
                  · exact hn6 q hq (.inr h3)
                  · omega
              have har7 := hg7.ar har6 hh2
              have hf8 : ¬ foot C7 g wo.heap.size := fun hf => by
                rcases hf with h | h
                · exact hh2 (.inl h)
                · rcases hf7 _ h with h3 | h3
                  · exact hh2 (.inr h3)
                  · have := har6.lt; have := har5.lt; omega
              go_wp2_with fail
              go_loopw [11] (TurnRel w g bm d6 M d5 n7 c7 A6 A5 C7 all5 (addL wl5 b) wo.heap.size ⟨1, x, y, U, B, bm, bd, b⟩) (fun j _ => bm - (intOf j).toNat)
              case atStart => exact ⟨0, _, Nat.zero_le _, rfl, ho7, hww7, hq7, har7⟩
              case round =>
                clear e3 e4 e4A har5 har6 har7 hww7 hq7 ho7 hown6 hws6 hg6 hg7 hf7 hw7 hn6 hA6 hb6 hr5 hr5a hwsA hol hapA
                obtain ⟨p, v, hp, rfl, o8, hww8, hq8, har8⟩ := hrel
                by_cases hpb : p < bm
                · have hpI : (p : Int) < (bm : Int) ∧ (0 : Int) ≤ p := by omega
                  obtain ⟨gb, rfl⟩ := o8.addr (by omega)
                  have c8 := o8.cell (i := p) (by omega)
                  have z8 := o8.frozen p
                  obtain ⟨vv, hvv⟩ : ∃ vv : Int, v p = vv := ⟨_, rfl⟩
                  rw [hvv] at c8
                  clear hvv
                  go_wp2_with fail
                  go_roundw
                  case rel => exact TurnRel.next hpb o8 hww8 hq8 har8 _ (by go_num)
                  case measure => simp [intOf]; omega
                · have hpI : (bm : Int) ≤ (p : Int) := by omega
                  have e4 := har8.cell (i := 4) (by omega)
                  unfold af at e4
                  have hr8 : RdI .u8 wr w.heap.size B bm b := hrd.below hww8.2.2.2
                  go_wp2_with (at_builtin; (refine wpList_app .u8 w.heap.size 5 i0 1 rfl (.tmp 74) (.tmp 76) _ rfl Try.underlying22 Hi.out Hz0.out Hz1.out Hz2.out rfl hww8.1 rfl hr8 (by omega) (by omega) hww8.2.2.2.size ?_)
                               intro A9 d9 w9 hown9 hg9 hat9)
                  go_roundw
                  case rel =>
                    obtain ⟨r1, r2⟩ := exp_next (wr := wr) (C := C7) hww8.1 hww8.2.2.1 hww8.2.1 (fun q hq => .inl hq) hg9 hat9
                    have hsz := har8.lt
                    exact ⟨j + 1, A9, C7, M + bm, d9, n7, c7, _, _, by omega, by go_num, rfl, ⟨hown9, r1, r2, hws5.2.2.2.1.add b, hww8.2.2.2.grown hg9 hww8.2.2.2.size (fun q hq => (hww8.1.2.lt hq).1)⟩, by have := HM5.out; show _ ≤ _; omega, hh1, hf8, fun q hq e => by
                      subst e
                      rcases hat9 with h2 | h2
                      · exact hh3 _ (h2 ▸ hq) rfl
                      · rw [h2] at hq; injection hq with hq; omega, har8.grown hg9 (fun h => hh3 _ h.symm rfl)⟩
                  case measure => simp [intOf]; omega
            · have hjI : (T : Int) < (j : Int) := by omega
              have e0 := har5.cell (i := 0) (by omega)
              unfold af at e0
              have HMIN := Lib.hid hws5.min_
              go_wp2_with fail
              all_goals
                refine (winLen_any _ _ _ _ _ _ _ hws5.2.1).mono ?_
                rintro e w' ⟨rfl, rfl⟩
                rw [HMIN.out]
                go_wp2
                go_roundw
                case rel => exact ⟨k + 1, A5, C5, M, d5, n5, c5, all5, wl5, by omega, by omega, by go_num, rfl, hws5, by have := HM5.out; show _ ≤ _; omega⟩
                case measure => simp [intOf]; omega
        · by_cases hdo2 : z = 2
          · subst hdo2
            have HMIN := Lib.hid hwsa.min_
            have e0 := har.cell (i := 0) (by omega)
            have e1 := har.cell (i := 1) (by omega)
            have e2 := har.cell (i := 2) (by omega)
            unfold af at e0 e1 e2
            by_cases hx1 : x < 1 ∨ 258 < x
            · have hx2 : x < 1 ∨ (¬ x < 1 ∧ 258 < x) := by omega
              have HX1 := Lib.hid hx1
              clear hx1
              rcases hx2 with hx2 | ⟨hx2, hx3⟩
              all_goals
                go_wp2_with fail
                all_goals
                  refine (copy_arg _ g x y HX1.out).mono ?_
                  rintro e w' ⟨rfl, rfl⟩
                  go_wp2_with fail
                  refine (winLen_any _ _ _ _ _ _ _ hwsa.2.1).mono ?_
                  rintro e w' ⟨rfl, rfl⟩
                  rw [HMIN.out]
                  go_wp2
                  go_roundw
                  case rel => exact ⟨k + 1, A1, C, m, d, n1, c1, all, wl, by omega, by omega, by go_num, rfl, hwsa, by have := HM.out; show _ ≤ _; omega⟩
                  case measure => simp [intOf]; omega
            · have hx2 : ¬ x < 1 ∧ ¬ 258 < x := by omega
              clear hx1
              have hkn : (32768 < (m : Int) ∧ (y < 1 ∨ (¬ y < 1 ∧ 32768 < y))) ∨ (¬ 32768 < (m : Int) ∧ (y < 1 ∨ (¬ y < 1 ∧ (m : Int) < y))) ∨ (1 ≤ y ∧ y ≤ 32768 ∧ y ≤ (m : Int)) := by omega
              have hmi := hwsa.min_
              rcases hkn with ⟨hkn, hy⟩ | ⟨hkn, hy⟩ | ⟨hy1, hy2, hy3⟩
              · rw [if_pos hkn] at hmi
                have hD : y < 1 ∨ ((min n1 32768 : Nat) : Int) < y := by omega
                have HD := Lib.hid hD
                have HXX := Lib.hid hx2
                have hxa : decide (x < 1) = false := by simpa using hx2.1
                have hxb : decide (258 < x) = false := by simpa using hx2.2
                have hxc : (x < 1) = False := eq_false hx2.1
                have hxd : (258 < x) = False := eq_false hx2.2
                clear hmi hD hx2
                rcases hy with hy | ⟨hy0, hy⟩
                all_goals
                  go_wp2_with fail
                  refine (copy_code _ _ _ _ _ _ _ hwsa.2.1 x y (by have := HXX.out; omega) HD.out).mono ?_
                  rintro e w' ⟨rfl, rfl⟩
                  go_wp2_with fail
                  refine (winLen_any _ _ _ _ _ _ _ hwsa.2.1).mono ?_
                  rintro e w' ⟨rfl, rfl⟩
                  rw [HMIN.out]
                  go_wp2
                  go_roundw
                  case rel => exact ⟨k + 1, A1, C, m, d, n1, c1, all, wl, by omega, by omega, by go_num, rfl, hwsa, by have := HM.out; show _ ≤ _; omega⟩
                  case measure => simp [intOf]; omega
              · rw [if_neg hkn] at hmi
                have hD : y < 1 ∨ ((min n1 32768 : Nat) : Int) < y := by omega
                have HD := Lib.hid hD
                have HXX := Lib.hid hx2
                have hxa : decide (x < 1) = false := by simpa using hx2.1
                have hxb : decide (258 < x) = false := by simpa using hx2.2
                have hxc : (x < 1) = False := eq_false hx2.1
                have hxd : (258 < x) = False := eq_false hx2.2
                clear hmi hD hx2
                rcases hy with hy | ⟨hy0, hy⟩
                all_goals
                  go_wp2_with fail
                  refine (copy_code _ _ _ _ _ _ _ hwsa.2.1 x y (by have := HXX.out; omega) HD.out).mono ?_
                  rintro e w' ⟨rfl, rfl⟩
                  go_wp2_with fail
                  refine (winLen_any _ _ _ _ _ _ _ hwsa.2.1).mono ?_
                  rintro e w' ⟨rfl, rfl⟩
                  rw [HMIN.out]
                  go_wp2
                  go_roundw
                  case rel => exact ⟨k + 1, A1, C, m, d, n1, c1, all, wl, by omega, by omega, by go_num, rfl, hwsa, by have := HM.out; show _ ≤ _; omega⟩
                  case measure => simp [intOf]; omega
              · obtain ⟨P, rfl⟩ := Int.eq_ofNat_of_zero_le (show 0 ≤ x by omega)
                obtain ⟨D, rfl⟩ := Int.eq_ofNat_of_zero_le (show 0 ≤ y by omega)
                have hDm : (D : Int) ≤ ((min n1 32768 : Nat) : Int) := by rw [hmi]; split <;> omega
                have HD := Lib.hid hDm
                have HP := Lib.hid (show 1 ≤ P ∧ P ≤ 258 by omega)
                have HDD := Lib.hid (show 1 ≤ D ∧ D ≤ m by omega)
                have hxa : decide ((P : Int) < 1) = false := by simpa using hx2.1
                have hxb : decide (258 < (P : Int)) = false := by simpa using hx2.2
                have hxc : ((P : Int) < 1) = False := eq_false hx2.1
                have hxd : (258 < (P : Int)) = False := eq_false hx2.2
                have hya : ((D : Int) < 1) = False := eq_false (by omega)
                have hyb : (32768 < (D : Int)) = False := eq_false (by omega)
                have hyc : (m < D) = False := eq_false (by omega)
                have hagc : cpL wl D P = again all D P := cpL_again hwsa.2.2.2.1 (by have := HDD.out; omega) (by rw [← hwsa.2.1.n_eq]; omega)
                have HAGC := Lib.hid hagc
                clear hx2 hmi hDm hy1 hy2 hy3 hagc
                obtain ⟨wo, hwo⟩ : ∃ wo : World, wo = wr := ⟨_, rfl⟩
                subst hwo
                go_wp2_with fail
                all_goals
                  refine (copy_ok _ _ _ _ _ _ _ hwsa.2.1 P D (by have := HP.out; omega) (by have := HDD.out; exact ⟨by omega, HD.out⟩)).mono ?_
                  rintro e w2 ⟨gb, C2, n2, c2, rfl, hob, hw2, hapb, hg2, hf2⟩
                  have hwa := hwsa.2.1
                  have hall2 := hg2.ownI hwsa.1 hwsa.2.2.1
                  have hgb := hob.2.lt (g := gb) rfl
                  have har2 := hg2.ar har (fun h => by have := (hws.2.1.foot_lo h).2; omega)
                  have hb2w := hwsa.2.2.2.2.trans (hg2.below (fun q hq => (hwa.foot_lo hq).1) hwsa.2.2.2.2.size)
                  have hapq : ∀ q, blkOf A1 = some q → ¬ foot C2 g q ∧ q ≠ gb ∧ q ≠ wo.heap.size := by
                    intro q hq
                    have h1 := (hws.1.2.lt hq).2
                    have hsz : wo.heap.size ≤ gb := by have := hgb.1; simp at this; omega
                    refine ⟨?_, by omega, by omega⟩
                    rintro (h | h)
                    · exact hws.2.2.1 q hq (.inl h)
                    · rcases hf2 q h with h2 | h2
                      · exact hws.2.2.1 q hq (.inr h2)
                      · simp at h2; omega
                  have q1 : w2.cell? ⟨wo.heap.size, 1, none⟩ = _ := har2.cell (i := 1) (by omega)
                  have q2 : w2.cell? ⟨wo.heap.size, 2, none⟩ = _ := har2.cell (i := 2) (by omega)
                  unfold af at q1 q2
                  go_wp2_with fail
                  go_loopw [6, 17] (CpRel w g gb wo.heap.size C2 n2 c2 (addL wl (cpL wl D P)) all (cpL wl D P) D P ⟨2, P, D, u, B, bm, bd, b⟩) (fun _ j _ => P - (intOf j).toNat)
                  case atStart => exact ⟨0, A1, m, d, Nat.zero_le _, rfl, rfl, by rw [again_zero, List.append_nil]; exact hall2, hw2, hapq, hob.more (Nat.le_trans hwsa.2.2.2.2.size (Nat.le_refl _)), har2, hb2w⟩
                  case round =>
                    obtain ⟨j, A5, M, d5, hj, rfl, rfl, ho5, hw5, hap5, hob5, har5, hb5⟩ := hrel
                    have q1 := har5.cell (i := 1) (by omega)
                    have q2 := har5.cell (i := 2) (by omega)
                    unfold af at q1 q2
                    have hM : M = m + j := by have := ho5.1; rw [List.length_append, again_length, ← hall2.1] at this; exact this
                    by_cases hjP : j < P
                    · have hj0 : (0 : Int) ≤ j ∧ (j : Int) < P ∧ (P : Int) ≤ 258 := by have := HP.out; omega
                      obtain ⟨Q, hQ⟩ : ∃ Q : Nat, M - D = Q := ⟨_, rfl⟩
                      have hDM : D ≤ M := by have := HDD.out; omega
                      have hQI : (M : Int) - (D : Int) = (Q : Int) := by omega
                      have hQb : (0 : Int) ≤ Q ∧ (Q : Int) < (M : Int) := by have := HDD.out; omega
                      have hMb : (M : Int) ≤ 4000000 := by have := HM.out; have := HP.out; omega
                      obtain ⟨g5, rfl⟩ := ho5.2.addr (by omega)
                      have c5 := ho5.2.cell (i := Q) (by omega)
                      have hag := again_succ all D j (by have := HDD.out; omega) (by rw [← hall2.1]; exact HDD.out.2)
                      rw [← hall2.1, ← hM, hQ] at hag
                      obtain ⟨v, hv⟩ : ∃ v : Int, ix (all ++ again all D j) Q = v := ⟨_, rfl⟩
                      rw [hv] at c5 hag
                      have HAG := Lib.hid hag
                      have ho6 := ho5.alloc (.cells #[.int .u8 v] 5)
                      have hb6 := hb5.alloc hb5.size (.cells #[.int .u8 v] 5)
                      have hMN := Lib.hid (show M + 1 ≤ 1000000000000 by omega)
                      have HMJ := Lib.hid hM
                      clear hag hv hQ hM
                      go_wp2_with (at_builtin; (refine wpList_app .u8 w.heap.size 5 i0 1 rfl (.tmp 124) (.tmp 133) _ rfl Try.underlying22 Hi.out Hz0.out Hz1.out Hz2.out rfl ho6 rfl (RdI.lit .u8 wr [v] 5) hMN.out (by omega) (by have := hb6.size; exact this) ?_)
                                   intro A7 d7 w7 hown7 hg7 hat7)
                      go_roundw
                      case rel =>
                        have hsz := hgb.2
                        refine ⟨j + 1, A7, M + 1, d7, by omega, by go_num, rfl, by rw [HAG.out, ← List.append_assoc]; exact hown7, ?_, ?_, ?_, ?_, hb6.grown hg7 hb6.size (fun q hq => (ho5.2.lt hq).1)⟩
                        · exact (exp_next ho5 (fun q hq => (hap5 q hq).1) (hw5.keeps ((Below.refl _ wr).alloc (Nat.le_refl _) _)) (fun q hq => .inl hq) hg7 hat7).1
                        · intro q hq
                          refine ⟨(exp_next ho5 (fun q hq => (hap5 q hq).1) (hw5.keeps ((Below.refl _ wr).alloc (Nat.le_refl _) _)) (fun q hq => .inl hq) hg7 hat7).2 q hq, ?_⟩
                          rcases hat7 with h | h
                          · exact (hap5 q (h ▸ hq)).2
                          · have h1 := (hob5.2.lt (g := gb) rfl).2
                            have h2 := har5.lt
                            rw [h] at hq
                            simp at hq
                            omega
                        · exact (hob5.alloc _).grown hg7 (.inl (fun h => (hap5 g5 rfl).2.1 (by simp [blkOf] at h; omega)))
                        · exact (har5.alloc _).grown hg7 (fun h => (hap5 g5 rfl).2.2 (by simp [blkOf] at h; omega))
                      case measure => simp [intOf]; omega
                    · obtain rfl : P = j := by omega
                      have hMP : m < M := by have := HP.out; omega
                      obtain ⟨g5, rfl⟩ := ho5.2.addr (by omega)
                      have hcap5 := ho5.2.capLe
                      have hne5 : ¬ d5 = m := by omega
                      have hsl : m ≤ M ∧ m ≤ d5 ∧ M ≤ d5 := by omega
                      have hMm : M - m = P := by omega
                      have hrest := ho5.rd.cut (j := m) (by omega) (A' := some ⟨g5, m, none⟩) (fun _ => by rw [Option.map_some, addr0])
                      rw [hMm, hall2.1, List.drop_left] at hrest
                      rw [← hall2.1] at hrest
                      have HMJ := Lib.hid hM
                      have hMI : (M : Int) ≤ 4000000 ∧ (m : Int) ≤ (M : Int) := by have := HM.out; have := HP.out; omega
                      clear hM
                      go_wp2_with fail
                      refine (same_any wr wr.heap.size P P P (d5 - m) _ _ _ _ hob5.rd hrest (by have := HP.out; omega) HAGC.out).mono ?_
                      rintro e w8 ⟨rfl, q8, rfl⟩
                      have hww8 : WW w g (some ⟨g5, 0, none⟩) C2 M d5 n2 c2 _ _ wr := ⟨ho5, hw5, fun q hq => (hap5 q hq).1, hb5⟩
                      have hgb5 := hob5.2.lt (g := gb) rfl
                      have hne8 : wo.heap.size ≠ gb := by have := hgb.1; rw [size_alloc] at this; omega
                      have hq8 : ∀ q, blkOf (some (⟨gb, 0, none⟩ : Addr)) = some q → blkOf (some (⟨g5, 0, none⟩ : Addr)) ≠ some q ∧ ¬ foot C2 g q ∧ wo.heap.size ≠ q := fun q hq => by
                        simp [blkOf] at hq
                        subst hq
                        exact ⟨fun h => (hap5 _ h).2.1 rfl, hapb, hne8⟩
                      have hww8 := hww8.drewN q8
                      clear hrest hsl hMm hne5 hcap5
                      go_wp2_with fail
                      go_loopw [18] (TurnRel w g P P M d5 n2 c2 (some ⟨gb, 0, none⟩) (some ⟨g5, 0, none⟩) C2 (all ++ again all D P) (addL wl (cpL wl D P)) wo.heap.size ⟨2, P, D, u, B, bm, bd, b⟩) (fun j _ => P - (intOf j).toNat)
                      case atStart => exact ⟨0, _, Nat.zero_le _, rfl, hob5.2.drewN q8, hww8, hq8, har5.drewN q8⟩
                      case round =>
                        clear hww8 hq8 har5 hob5 ho5 hw5 hap5 hb5 hgb5 q1 q2 hall2 hgb har2 hb2w hapq
                        obtain ⟨p, v, hp, rfl, o8, hww8, hq8, har8⟩ := hrel
                        by_cases hpb : p < P
                        · have hpI : (p : Int) < (P : Int) ∧ (0 : Int) ≤ p ∧ (P : Int) ≤ 258 := by have := HP.out; omega
                          have c8 := o8.cell (i := p) (by omega)
                          have z8 := o8.frozen p
                          obtain ⟨vv, hvv⟩ : ∃ vv : Int, v p = vv := ⟨_, rfl⟩
                          rw [hvv] at c8
                          clear hvv
                          go_wp2_with fail
                          go_roundw
                          case rel => exact TurnRel.next hpb o8 hww8 hq8 har8 _ (by go_num)
                          case measure => simp [intOf]; omega
                        · have hpI : (P : Int) ≤ (p : Int) := by omega
                          have ht8 : Tail (all ++ again all D P) (addL wl (cpL wl D P)) := by rw [HAGC.out]; exact hwsa.2.2.2.1.add _
                          have hws8 := hww8.ws ht8
                          have HMIN := Lib.hid hws8.min_
                          clear ht8
                          go_wp2_with fail
                          all_goals
                            refine (winLen_any _ _ _ _ _ _ _ hws8.2.1).mono ?_
                            rintro e w' ⟨rfl, rfl⟩
                            rw [HMIN.out]
                            go_wp2
                            go_roundw
                            case rel => exact ⟨k + 1, some ⟨g5, 0, none⟩, C2, M, d5, n2, c2, _, _, by omega, by omega, by go_num, rfl, hws8, by have := HM.out; have := HP.out; have := HMJ.out; show _ ≤ _; omega⟩
                            case measure => simp [intOf]; omega

          · have hd1 : (z == 1) = false := by simpa using hdo1
            have hd2 : (z == 2) = false := by simpa using hdo2
            have HMIN := Lib.hid hwsa.min_
            go_wp2_with fail
            all_goals
              refine (winLen_any _ _ _ _ _ _ _ hwsa.2.1).mono ?_
              rintro e w' ⟨rfl, rfl⟩
              rw [HMIN.out]
              go_wp2
              go_roundw
              case rel => exact ⟨k + 1, A1, C, m, d, n1, c1, all, wl, by omega, by omega, by go_num, rfl, hwsa, by have := HM.out; show _ ≤ _; omega⟩
              case measure => simp [intOf]; omega
    · obtain ⟨q, hq⟩ : ∃ q : Nat, min n1 32768 = q := ⟨_, rfl⟩
      have hm1 := hws.1.1
      have hl1 := hws.2.2.2.1.len
      rw [← hws.2.1.n_eq, ← hm1, hq] at hl1
      obtain ⟨K, hK⟩ : ∃ K : Nat, (K : Int) = max 0 (min N (q : Int)) := ⟨(max 0 (min N (q : Int))).toNat, by omega⟩
      obtain ⟨J, hJ⟩ : ∃ J : Nat, J = m - K := ⟨_, rfl⟩
      have hmM : (m : Int) ≤ 4000000 ∧ (q : Int) ≤ (m : Int) ∧ (0 : Int) ≤ q := by have := HM.out; omega
      have hJ2 : J ≤ m := by omega
      have hKq : K ≤ n1 ∧ K ≤ q := by omega
      have hsl : ∀ W, _ := run_slice_from (P := Try.prog) 22 5 Try.underlying22 Hi.out Hz1.out A1 m d hJ2
      have hwr : IntKind.i64.wrap ((m : Int) - (K : Int)) = (J : Int) := by rw [IntWalk.i64_in _ (by omega)]; omega
      have hKK := Lib.hid hK
      have hmJ : Hid (m - J = K) := by show _ = _; omega
      have hdr : Hid (all.drop J = wl.drop (wl.length - K)) := by
        show _ = _
        rw [hws.2.2.2.1.back (by rw [← hws.2.1.n_eq]; omega), ← hm1, hJ]
      have HQ := Lib.hid hq
      have HSL := Lib.hid hsl
      have HWR := Lib.hid hwr
      have hKb : K ≤ 1000000 := by omega
      have hK3 : (K : Int) = max 0 (min (K : Int) ((min n1 32768 : Nat) : Int)) := by rw [hq]; omega
      have hKq2 := Lib.hid hK3
      have hcs : len ≤ k ∨ (k < len ∧ (30 : Int) ≤ k) := by omega
      have hNs : ((q : Int) < N ∧ q = K) ∨ (N < 0 ∧ K = 0) ∨ (0 ≤ N ∧ N ≤ (q : Int) ∧ N = (K : Int)) := by have := hKK.out; omega
      clear hlt hJ hsl hwr hK hK3 hq hl1 hm1
      have H1 := Lib.hid hws
      rcases hNs with ⟨hn1, rfl⟩ | ⟨hn1, rfl⟩ | ⟨hn0, hn1, rfl⟩
      · rcases hcs with hcs | ⟨hcs, hcs2⟩
        all_goals
          go_upto_region 56 with (refine (winLen_any _ _ _ _ _ _ _ hws.2.1).mono ?_; rintro e w' ⟨rfl, rfl⟩; rw [HQ.out])
          have hsl := HSL.out
          have hwr := HWR.out
          have hwsd := hws.keeps (Below.refl _ wr).drew
          go_region_held3 (fun w' => True) (trivial)
            (first
              | (go_at_call 17; (refine (last_any _ _ _ _ _ _ _ hwsd.2.1 _ _ hKq2.out).mono ?_); rintro e w7 ⟨A7, c7, rfl, hown7, hbl7⟩)
              | (go_at_call 16; (refine (same_any w7 w7.heap.size _ _ _ _ _ _ _ _ hown7.rd ((hmJ.out ▸ ((hwsd.1.keeps hbl7).rd).cutA hJ2 (hws.1.2.capLe))) (by omega) hdr.out.symm).mono ?_); rintro e w8 ⟨rfl, q8, rfl⟩))
          all_goals
            go_wp2
            go_ret
            exact ⟨rfl, below_drewN (hwsd.2.2.2.2.trans (hbl7.mono hwsd.2.2.2.2.size)) q8⟩
      · rcases hcs with hcs | ⟨hcs, hcs2⟩
        all_goals
          go_upto_region 56 with (refine (winLen_any _ _ _ _ _ _ _ hws.2.1).mono ?_; rintro e w' ⟨rfl, rfl⟩; rw [HQ.out])
          have hsl := HSL.out
          have hwr : IntKind.i64.wrap ((m : Int) - 0) = (J : Int) := by have := HWR.out; simpa using this
          have hwr2 : IntKind.i64.wrap (m : Int) = (J : Int) := by simpa using hwr
          have hwsd := hws.keeps (Below.refl _ wr).drew
          go_region_held3 (fun w' => True) (trivial)
            (first
              | (go_at_call 17; (refine (last_any _ _ _ _ _ _ _ hwsd.2.1 0 0 (by omega)).mono ?_); rintro e w7 ⟨A7, c7, rfl, hown7, hbl7⟩)
              | (go_at_call 16; (refine (same_any w7 w7.heap.size _ _ _ _ _ _ _ _ hown7.rd ((hmJ.out ▸ ((hwsd.1.keeps hbl7).rd).cutA hJ2 (hws.1.2.capLe))) (by omega) hdr.out.symm).mono ?_); rintro e w8 ⟨rfl, q8, rfl⟩))
          all_goals
            go_wp2
            go_ret
            exact ⟨rfl, below_drewN (hwsd.2.2.2.2.trans (hbl7.mono hwsd.2.2.2.2.size)) q8⟩
      · rcases hcs with hcs | ⟨hcs, hcs2⟩
        all_goals
          go_upto_region 56 with (refine (winLen_any _ _ _ _ _ _ _ hws.2.1).mono ?_; rintro e w' ⟨rfl, rfl⟩; rw [HQ.out])
          have hsl := HSL.out
          have hwr := HWR.out
          have hwsd := hws.keeps (Below.refl _ wr).drew
          go_region_held3 (fun w' => True) (trivial)
            (first
              | (go_at_call 17; (refine (last_any _ _ _ _ _ _ _ hwsd.2.1 _ _ hKq2.out).mono ?_); rintro e w7 ⟨A7, c7, rfl, hown7, hbl7⟩)
              | (go_at_call 16; (refine (same_any w7 w7.heap.size _ _ _ _ _ _ _ _ hown7.rd ((hmJ.out ▸ ((hwsd.1.keeps hbl7).rd).cutA hJ2 (hws.1.2.capLe))) (by omega) hdr.out.symm).mono ?_); rintro e w8 ⟨rfl, q8, rfl⟩))
          all_goals
            go_wp2
            go_ret
            exact ⟨rfl, below_drewN (hwsd.2.2.2.2.trans (hbl7.mono hwsd.2.2.2.2.size)) q8⟩
end Go.Proofs.Ytbcmiahggfgjjaa
