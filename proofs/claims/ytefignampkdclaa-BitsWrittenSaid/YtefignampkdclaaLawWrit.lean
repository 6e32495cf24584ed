/-
  The walk of the statement BitsWritten.
-/
import Derived.Test.YtefignampkdclaaProg
import Derived.Test.YtefignampkdclaaRev
import Derived.Test.YtefignampkdclaaRefB
import Derived.Test.YtefignampkdclaaOwnO
import Derived.Test.YtefignampkdclaaOpenB
import Derived.BigFrame
import Derived.Deep.RegionHeld3
namespace Go.Proofs.Ytefignampkdclaa
open Go.RowKit
set_option linter.unusedVariables false

/-- the bits so far, in their own row; the writer that holds them too -/
structure WB (w0 : World) (g : Nat) (A1 : Option Addr) (m d : Nat) (L1 : List Int) (Aw : Option Addr) (nw cw : Nat) (L2 : List Int) (w : World) : Prop where
  own : OwnO .u8 w w0.heap.size 5 A1 m d L1
  wtr : Wtr w w0.heap.size g Aw nw cw L2
  dis : ∀ q, blkOf A1 = some q → ¬ foot Aw g q
  bel : Below w0.heap.size w0 w
section
variable {w0 w w' : World} {g m d nw cw : Nat} {A1 Aw : Option Addr} {L1 L2 : List Int}
theorem WB.keeps (h : WB w0 g A1 m d L1 Aw nw cw L2 w) (hb : Below w.heap.size w w') : WB w0 g A1 m d L1 Aw nw cw L2 w' :=
  ⟨h.own.keeps hb, h.wtr.keeps hb, h.dis, h.bel.trans (hb.mono h.bel.size)⟩
theorem WB.wop (h : WB w0 g A1 m d L1 Aw nw cw L2 w) {A' : Option Addr} {n' c' : Nat} {L2' : List Int} (hw : Wtr w' w0.heap.size g A' n' c' L2') (hg : Chg w w' (foot Aw g)) (hf : ∀ k, blkOf A' = some k → blkOf Aw = some k ∨ w.heap.size ≤ k) :
    WB w0 g A1 m d L1 A' n' c' L2' w' :=
  ⟨h.own.chg hg h.dis, hw, fun q hq hq2 => by
    rcases hq2 with hq2 | hq2
    · exact h.dis q hq (.inl hq2)
    · rcases hf q hq2 with h3 | h3
      · exact h.dis q hq (.inr h3)
      · have := (h.own.lt hq).2; omega, h.bel.trans (hg.below (fun q hq => (h.wtr.foot_lo hq).1) h.bel.size)⟩
/-- the row grows -/
theorem WB.grow (h : WB w0 g A1 m d L1 Aw nw cw L2 w) {A2 : Option Addr} {m2 d2 : Nat} {L1' : List Int} (ho : OwnO .u8 w' w0.heap.size 5 A2 m2 d2 L1') (hg : w.grownBy w' (blkOf A1)) (hat : blkOf A2 = blkOf A1 ∨ blkOf A2 = some w.heap.size) :
    WB w0 g A2 m2 d2 L1' Aw nw cw L2 w' :=
  ⟨ho, h.wtr.chg (S := fun q => blkOf A1 = some q) ((Chg.refl w _).grown hg fun k hk => .inl hk) (fun k hk h2 => h.dis k h2 hk), fun q hq hq2 => by
    rcases hat with e | e
    · exact h.dis q (e ▸ hq) hq2
    · rw [e] at hq; injection hq with hq; have := (h.wtr.foot_lo hq2).2; omega, h.bel.grown hg h.bel.size fun q hq => (h.own.lt hq).1⟩
/-- another row takes its place -/
theorem WB.other (h : WB w0 g A1 m d L1 Aw nw cw L2 w) {A2 : Option Addr} {m2 d2 : Nat} {L1' : List Int} (ho : OwnO .u8 w w0.heap.size 5 A2 m2 d2 L1') (hd : ∀ q, blkOf A2 = some q → ¬ foot Aw g q) :
    WB w0 g A2 m2 d2 L1' Aw nw cw L2 w := ⟨ho, h.wtr, hd, h.bel⟩
end
def WrRel (w0 : World) (g len : Nat) (o i : Value) (w : World) : Prop :=
  ∃ (k m d nw cw : Nat) (A1 Aw : Option Addr) (L : List Int), k ≤ len ∧ k ≤ 100 ∧ i = .int .i64 k ∧ o = .slice A1 m d ∧ WB w0 g A1 m d L Aw nw cw L w ∧ Hid (m ≤ 3000 * k)
def bf (t : ActV) : Nat → Value
  | 0 => .int .i64 t.do_
  | 1 => .int .i64 t.n
  | 2 => .int .u32 t.v
  | _ => .slice t.A t.m t.d
theorem bf_new (w : World) (t : ActV) (ty : TypeId) : Ar (w.alloc (.cells #[.int .i64 t.do_, .int .i64 t.n, .int .u32 t.v, .slice t.A t.m t.d] ty)) w.heap.size 4 (bf t) :=
  Ar.new w _ ty rfl fun i hi => by
    obtain rfl | rfl | rfl | rfl : i = 0 ∨ i = 1 ∨ i = 2 ∨ i = 3 := by omega
    all_goals rfl

set_option maxRecDepth 100000 in
set_option maxHeartbeats 16000000 in
theorem bitsWritten_law (A : Option Addr) (len cap : Nat) (l : List ActV) (w : World) (T : l.length = len ∧ (∀ i, i < len → ∃ ad, A = some ad ∧ RdAct w (ad.add (i * 4)) (actAt l i)) ∧ len ≤ maxLen) :
    Calls Try.prog 3 #[.slice A len cap] w fun e w' => e = .returned (.bool true) ∧ Below w.heap.size w w' := by
  obtain ⟨hll, hr, hlen⟩ := T
  have hlI : (len : Int) ≤ 9223372036854775807 := by unfold maxLen at hlen; omega
  clear hlen hll
  obtain ⟨i0, hi, hz0, hz1, hz2⟩ := info_parts fbyte_info
  have Hi := Lib.hid hi
  have Hz0 := Lib.hid hz0
  have Hz1 := Lib.hid hz1
  have Hz2 := Lib.hid hz2
  clear hi hz0 hz1 hz2
  go_enter Try.func3, Try.ntmps3
  go_wp2_with fail
  refine (wtrNew_any _).mono ?_
  rintro e w1 ⟨g, rfl, hw1, hb1⟩
  go_wp2_with fail
  refine (answers1_any _).mono ?_
  rintro e w2 ⟨rfl, hb2⟩
  have hb3 := hb1.trans (hb2.mono hb1.size)
  have hw2 := hw1.keeps hb2
  go_wp2_with fail
  go_loopw [4, 5] (WrRel w g len) (fun _ i _ => 100 - (intOf i).toNat)
  case atStart => exact ⟨0, 0, 0, 0, 0, none, none, [], Nat.zero_le _, Nat.zero_le _, rfl, rfl, ⟨OwnO.nil_, hw2, by simp [blkOf], hb3⟩, Nat.zero_le _⟩
  case round =>
    clear hw1 hb1 hb2 hb3 hw2
    obtain ⟨k, m, d, nw, cw, A1, Aw, L, hk, hk100, rfl, rfl, hwb, HM⟩ := hrel
    have hmI : (m : Int) ≤ 300000 ∧ (0 : Int) ≤ m := by have := HM.out; omega
    have hmL := hwb.own.1
    have HML := Lib.hid hmL
    have hLl : L.length ≤ 4000000000000 := by omega
    clear hmL
    by_cases hlt : k < len ∧ k < 100
    · obtain ⟨hlt1, hlt2⟩ := hlt
      have hk0 : (0 : Int) ≤ k ∧ (k : Int) < len ∧ (k : Int) < 100 := by omega
      obtain ⟨ad, rfl, hact⟩ := hr k hlt1
      obtain ⟨t, ht⟩ : ∃ t : ActV, actAt l k = t := ⟨_, rfl⟩
      rw [ht] at hact
      clear ht
      obtain ⟨z, N, V, B, bm, bd, b⟩ := t
      obtain ⟨a0, a1, a2, a3, hal, ⟨hf0, hf1, hf2⟩, hrd, hle⟩ := hact
      dsimp only at a0 a1 a2 a3 hf0 hf1 hf2 hrd hle
      replace a0 := (hwb.bel.cell hal).trans a0
      replace a1 := (hwb.bel.cell (p := ⟨(ad.add (k * 4)).block, (ad.add (k * 4)).off + 1, none⟩) hal).trans a1
      replace a2 := (hwb.bel.cell (p := ⟨(ad.add (k * 4)).block, (ad.add (k * 4)).off + 2, none⟩) hal).trans a2
      replace a3 := (hwb.bel.cell (p := ⟨(ad.add (k * 4)).block, (ad.add (k * 4)).off + 3, none⟩) hal).trans a3
      have har := bf_new wr ⟨z, N, V, B, bm, bd, b⟩ 29
      have hwa := hwb.keeps ((Below.refl _ wr).alloc (Nat.le_refl _) (.cells #[.int .i64 z, .int .i64 N, .int .u32 V, .slice B bm bd] 29))
      dsimp only at har
      have htm : (bm : Int) ≤ 9223372036854775807 := by unfold maxLen at hle; omega
      have hVb := bounds_u32 hf0
      have hby : ∀ x ∈ b, 0 ≤ x ∧ x < 256 := fun x hx => bounds_u8 (hf2 x hx)
      have hmL2 : Hid ((m : Int) = (L.length : Int)) := by show _ = _; have := HML.out; omega
      by_cases hbig : 300 < (bm : Int)
      · go_wp2
        go_roundw
        case rel => exact ⟨k + 1, m, d, nw, cw, A1, Aw, L, by omega, by omega, by go_num, rfl, hwa, by have := HM.out; show _ ≤ _; omega⟩
        case measure => simp [intOf]; omega
      · have hs3 : bm ≤ 300 := by omega
        by_cases h1 : z = 1
        · subst h1
          have e0 := har.cell (i := 0) (by omega)
          have e1 := har.cell (i := 1) (by omega)
          have e2 := har.cell (i := 2) (by omega)
          unfold bf at e0 e1 e2
          have hnf : ¬ foot Aw g wr.heap.size := fun h => by have := (hwb.wtr.foot_lo h).2; omega
          by_cases hN : N < 0 ∨ 32 < N
          · have hN2 : N < 0 ∨ (¬ N < 0 ∧ 32 < N) := by omega
            have HN := Lib.hid hN
            clear hN
            rcases hN2 with hN2 | ⟨hN2, hN3⟩
            all_goals
              go_wp2_with fail
              refine (put_not _ _ _ _ HN.out).mono ?_
              rintro e w5 ⟨rfl, rfl⟩
              go_wp2_with fail
              refine (wtrBits_any _ _ _ _ _ _ _ hwa.wtr hLl).mono ?_
              rintro e w7 ⟨rfl, q7, rfl⟩
              rw [← hmL2.out]
              go_wp2
              go_roundw
              case rel => exact ⟨k + 1, m, d, nw, cw, A1, Aw, L, by omega, by omega, by go_num, rfl, hwa.keeps (below_drewN (Below.refl _ _) q7), by have := HM.out; show _ ≤ _; omega⟩
              case measure => simp [intOf]; omega
          · obtain ⟨P, rfl⟩ := Int.eq_ofNat_of_zero_le (show 0 ≤ N by omega)
            have hP : (P : Int) ≤ 32 ∧ (0 : Int) ≤ P := by omega
            clear hN
            go_wp2_with fail
            refine (put_ok _ _ _ _ _ _ _ hwa.wtr V P hVb hP.1 hLl).mono ?_
            rintro e w5 ⟨A5, n5, c5, rfl, hw5, hg5, hf5⟩
            have hwb5 := hwa.wop hw5 hg5 hf5
            have har5 := hg5.ar har hnf
            have e15 := har5.cell (i := 1) (by omega)
            have e25 := har5.cell (i := 2) (by omega)
            unfold bf at e15 e25
            go_wp2_with fail
            refine (of_any _ V P hVb hP.1).mono ?_
            rintro e w6 ⟨A6, n6, c6, rfl, ho6, hb6⟩
            have hwb6 := hwb5.keeps hb6
            have hn6 := ho6.1
            rw [ofN_length] at hn6
            subst hn6
            have hmn : m + n6 ≤ 1000000000000 := by omega
            go_wp2_with (at_builtin; (refine wpList_appO .u8 w.heap.size 5 i0 1 rfl (.tmp 51) (.tmp 56) _ rfl Try.underlying26 Hi.out Hz0.out Hz1.out Hz2.out rfl hwb6.own rfl ho6.rd hmn (by omega) hwb6.bel.size ?_)
                         intro A7 c7 w7 hown7 hg7 hat7)
            have hwb7 := hwb6.grow hown7 hg7 hat7
            have hl7 : Hid (((L ++ ofN V n6).length : Int) = ((m + n6 : Nat) : Int)) := by show _ = _; rw [List.length_append, ofN_length]; have := HML.out; omega
            go_wp2_with fail
            refine (wtrBits_any _ _ _ _ _ _ _ hwb7.wtr (by have := hl7.out; omega)).mono ?_
            rintro e w8 ⟨rfl, q8, rfl⟩
            rw [hl7.out]
            go_wp2
            go_roundw
            case rel => exact ⟨k + 1, m + n6, c7, n5, c5, A7, A5, _, by omega, by omega, by go_num, rfl, hwb7.keeps (below_drewN (Below.refl _ _) q8), by have := HM.out; show _ ≤ _; omega⟩
            case measure => simp [intOf]; omega
        · have hz1 : (z == 1) = false := by simpa using h1
          by_cases h2 : z = 2
          · subst h2
            have e0 := har.cell (i := 0) (by omega)
            unfold bf at e0
            go_wp2_with fail
            refine (wtrAlign_any _ _ _ _ _ _ _ hwa.wtr hLl).mono ?_
            rintro e w5 ⟨A5, n5, c5, rfl, hw5, hg5, hf5⟩
            have hwb5 := hwa.wop hw5 hg5 hf5
            go_wp2_with fail
            refine (even_any _ _ _ _ _ _ hwb5.own.rd (Nat.le_refl _) (by omega)).mono ?_
            rintro e w6 ⟨A6, m6, c6, rfl, ho6, hb6⟩
            have hfl : ∀ q, blkOf A6 = some q → ¬ foot A5 g q := fun q hq h => by have := (hwb5.wtr.foot_lo h).2; have := (ho6.2.lt hq).1; omega
            have hwb6 := (hwb5.keeps hb6).other (ho6.more hwb5.bel.size).up hfl
            have hm6 := hwb6.own.1
            have hm6b : m6 ≤ m + 8 := by rw [hm6, evn_length]; have := HML.out; omega
            have hl6 : Hid (((evn L).length : Int) = (m6 : Int)) := by show _ = _; omega
            clear hm6
            go_wp2_with fail
            refine (wtrBits_any _ _ _ _ _ _ _ hwb6.wtr (by have := hl6.out; omega)).mono ?_
            rintro e w8 ⟨rfl, q8, rfl⟩
            rw [hl6.out]
            go_wp2
            go_roundw
            case rel => exact ⟨k + 1, m6, c6, n5, c5, A6, A5, _, by omega, by omega, by go_num, rfl, hwb6.keeps (below_drewN (Below.refl _ _) q8), by have := HM.out; show _ ≤ _; omega⟩
            case measure => simp [intOf]; omega
          · have hz2 : (z == 2) = false := by simpa using h2
            by_cases h3 : z = 3
            · subst h3
              have e0 := har.cell (i := 0) (by omega)
              have e3 := har.cell (i := 3) (by omega)
              unfold bf at e0 e3
              have hnf : ¬ foot Aw g wr.heap.size := fun h => by have := (hwb.wtr.foot_lo h).2; omega
              obtain ⟨wo, hwo⟩ : ∃ wo : World, wo = wr.alloc (.cells #[.int .i64 3, .int .i64 N, .int .u32 V, .slice B bm bd] 29) := ⟨_, rfl⟩
              rw [← hwo] at hwa har
              have hr5 : RdI .u8 wo w.heap.size B bm b := hrd.below hwa.bel
              have hr5a := hr5.alloc hwa.bel.size (.cells #[] 5)
              have hara := har.alloc (.cells #[] 5)
              have e3a := hara.cell (i := 3) (by omega)
              unfold bf at e3a
              have hwz : wr.heap.size + 1 = wo.heap.size := by rw [hwo]; simp
              have hozl := OwnI.lit (k := .u8) (b0 := wr.heap.size + 1) (w := wo) hwz [] 5 (Nat.le_of_eq hwz) (by simp)
              subst hwo
              clear hwz
              go_wp2_with (at_builtin; (refine wpList_app .u8 _ 5 i0 1 rfl (.tmp 67) (.tmp 69) _ rfl Try.underlying26 Hi.out Hz0.out Hz1.out Hz2.out rfl hozl rfl hr5a (by omega) (by omega) (by simp) ?_)
                           intro A6 d6 w6 hown6 hg6 hat6)
              rw [List.nil_append, Nat.zero_add] at hown6
              have hb6 : Below wr.heap.size wr w6 := (((Below.refl _ wr).alloc (Nat.le_refl _) _).alloc (by simp) _).grown hg6 (by simp; omega) (by simp [blkOf])
              have hwb6 := hwb.keeps hb6
              have har6 := hara.grown hg6 (by simp [blkOf])
              have e36 := har6.cell (i := 3) (by omega)
              unfold bf at e36
              go_wp2_with fail
              refine (wtrWrite_any _ _ _ _ _ _ _ _ _ _ _ _ hwb6.wtr hown6.rd (Nat.le_refl _) (fun h0 ad' e hf => by
                have h1 := (hwb.wtr.foot_lo hf).2
                have h2 := (hown6.2.lt (g := ad'.block) (by rw [e]; rfl)).1
                omega) hby hLl (by omega)).mono ?_
              rintro e w7 ⟨A7, n7, c7, rfl, hw7, hg7, hf7⟩
              have hwb7 := hwb6.wop hw7 hg7 hf7
              have har7 := hg7.ar har6 hnf
              have e37 := har7.cell (i := 3) (by omega)
              unfold bf at e37
              have hr7 : RdI .u8 w7 w.heap.size B bm b := hrd.below hwb7.bel
              have hwbd := hwb7.keeps (Below.refl _ w7).drew
              have hsB := hwbd.bel.size
              have hbmI : (bm : Int) ≤ 100000000000 := by omega
              have hbl := hrd.1
              have HBL := Lib.hid hbl
              have hmb : m ≤ 100000000000 := by omega
              clear hbl
              go_wp2
              go_region_held3 (fun w' => w'.cell? ⟨wr.heap.size, 3, none⟩ = some (.slice B bm bd))
                (first | go_keep | exact e39 | exact e3E2 | exact e3B2 | exact e3E | exact e3B)
                (first
                  | (go_at_call 13; (refine (even_any _ _ _ _ _ _ hwbB.own.rd (Nat.le_refl _) hmb).mono ?_); rintro e wE2 ⟨AE, mE, cE, rfl, hoE2, hbE2⟩
                     have e3E2 := (hbE2.cell (p := ⟨wr.heap.size, 3, none⟩) (by have := hzB; show wr.heap.size < _; omega)).trans e3B)
                  | (go_at_call 15; (refine (bits_any _ _ _ _ _ _ (hrd.below hwbE.bel) hwbE.bel.size hby hbmI).mono ?_); rintro e wB2 ⟨AB, mB, cB, rfl, hoB2, hbB2⟩
                     have e3B2 := (hbB2.cell (p := ⟨wr.heap.size, 3, none⟩) (by have := hzE; show wr.heap.size < _; omega)).trans e3E)
                  | (go_at_call 13; (refine (even_any _ _ _ _ _ _ hwbd.own.rd (Nat.le_refl _) hmb).mono ?_); rintro e wE ⟨AE, mE, cE, rfl, hoE, hbE⟩
                     have hwbE := hwbd.keeps hbE
                     have hzE : wr.heap.size < wE.heap.size := by have := hbE.size; have h2 := har7.lt; simp at this; omega
                     have e3E := (hbE.cell (p := ⟨wr.heap.size, 3, none⟩) har7.lt).trans e37)
                  | (go_at_call 15; (refine (bits_any _ _ _ _ _ _ (hrd.below hwbd.bel) hwbd.bel.size hby hbmI).mono ?_); rintro e wB ⟨AB, mB, cB, rfl, hoB, hbB⟩
                     have hwbB := hwbd.keeps hbB
                     have hzB : wr.heap.size < wB.heap.size := by have := hbB.size; have h2 := har7.lt; simp at this; omega
                     have e3B := (hbB.cell (p := ⟨wr.heap.size, 3, none⟩) har7.lt).trans e37)
                  | ((refine step_app .u8 w.heap.size 5 i0 1 rfl (.tmp 73) (.tmp 76) _ rfl Try.underlying26 Hi.out Hz0.out Hz1.out Hz2.out rfl (OwnI.keeps (OwnI.more hoE hwbd.bel.size) hbB2) rfl hoB2.rd (by have h1 := hoE.1; have h2 := hoB2.1; rw [evn_length] at h1; rw [bts_length] at h2; have := HML.out; have := HBL.out; omega) (by omega) (Nat.le_trans hwbE.bel.size hbB2.size) ?_)
                     intro A9 c9 w9 hown9 hg9 hat9
                     have hwb9 := (hwbE.keeps hbB2).other (OwnI.up (OwnI.keeps (OwnI.more hoE hwbd.bel.size) hbB2)) (fun q hq h => by have := (hwbd.wtr.foot_lo h).2; have := (hoE.2.lt hq).1; omega)
                     have hwbF := hwb9.grow hown9.up hg9 hat9
                     have hmF : Hid (mE + mB ≤ m + 8 + 2400) := by show _ ≤ _; have h1 := hoE.1; have h2 := hoB2.1; rw [evn_length] at h1; rw [bts_length] at h2; have := HML.out; have := HBL.out; omega
                     have e39 : w9.cell? ⟨wr.heap.size, 3, none⟩ = some (.slice B bm bd) := (hg9.cell_far ⟨wr.heap.size, 3, none⟩ (Nat.lt_of_lt_of_le hzE hbB2.size) (fun e => by have := (hoE.2.lt (g := wr.heap.size) e.symm).1; have h2 := har7.lt; simp at this; omega)).trans e3B2)
                  | ((refine step_app .u8 w.heap.size 5 i0 1 rfl (.tmp 73) (.tmp 76) _ rfl Try.underlying26 Hi.out Hz0.out Hz1.out Hz2.out rfl (OwnI.more hoE2 hwbB.bel.size) rfl (OwnI.keeps hoB hbE2).rd (by have h1 := hoE2.1; have h2 := hoB.1; rw [evn_length] at h1; rw [bts_length] at h2; have := HML.out; have := HBL.out; omega) (by omega) (Nat.le_trans hwbB.bel.size hbE2.size) ?_)
                     intro A9 c9 w9 hown9 hg9 hat9
                     have hwb9 := (hwbB.keeps hbE2).other (OwnI.up (OwnI.more hoE2 hwbB.bel.size)) (fun q hq h => by have := (hwbB.wtr.foot_lo h).2; have := (hoE2.2.lt hq).1; omega)
                     have hwbF := hwb9.grow hown9.up hg9 hat9
                     have hmF : Hid (mE + mB ≤ m + 8 + 2400) := by show _ ≤ _; have h1 := hoE2.1; have h2 := hoB.1; rw [evn_length] at h1; rw [bts_length] at h2; have := HML.out; have := HBL.out; omega
                     have e39 : w9.cell? ⟨wr.heap.size, 3, none⟩ = some (.slice B bm bd) := (hg9.cell_far ⟨wr.heap.size, 3, none⟩ (Nat.lt_of_lt_of_le hzB hbE2.size) (fun e => by have := (hoE2.2.lt (g := wr.heap.size) e.symm).1; omega)).trans e3E2))
              all_goals
                go_wp2_with fail
                refine (wtrBits_any _ _ _ _ _ _ _ hwbF.wtr (by have := hwbF.own.1; have := hmF.out; omega)).mono ?_
                rintro e w10 ⟨rfl, q10, rfl⟩
                have hlF : Hid (((evn L ++ bts b).length : Int) = ((mE + mB : Nat) : Int)) := by show _ = _; have := hwbF.own.1; omega
                rw [hlF.out]
                go_wp2
                go_roundw
                case rel => exact ⟨k + 1, mE + mB, c9, _, _, A9, _, _, by omega, by omega, by go_num, rfl, hwbF.keeps (below_drewN (Below.refl _ _) q10), by have := HM.out; have := hmF.out; show _ ≤ _; omega⟩
                case measure => simp [intOf]; omega
            · have hz3 : (z == 3) = false := by simpa using h3
              by_cases h4 : z = 4
              · subst h4
                have e0 := har.cell (i := 0) (by omega)
                unfold bf at e0
                go_wp2_with fail
                refine (wtrTake_any _ _ _ _ _ _ _ hwa.wtr).mono ?_
                rintro e w5 ⟨rfl, ho5, hw5, hg5⟩
                have hwb5 := hwa.wop hw5 (hg5.more fun q hq => .inl hq) (fun q hq => by simp [blkOf] at hq)
                have hnw := hwa.wtr.n_eq
                have hnwI : (nw : Int) ≤ 40000 ∧ (0 : Int) ≤ nw ∧ 8 * nw ≤ m := by have := HML.out; omega
                have hcap := hwa.own.capLe
                have hcut := hwb5.own.cut hnwI.2.2
                have hsl := run_slice_from (P := Try.prog) 26 5 Try.underlying26 Hi.out Hz1.out A1 m d hnwI.2.2
                have hsl2 : ∀ W, (Instr.slice 26 (.slice A1 m d) (some (.int .i64 (8 * (nw : Int)))) none none).run Try.prog W = .ok (.slice (cutA A1 d (8 * nw)) (m - 8 * nw) (d - 8 * nw)) W := fun W => by have := hsl W; rwa [Int.natCast_mul] at this
                obtain ⟨P, hP⟩ : ∃ P, 8 * nw = P := ⟨_, rfl⟩
                obtain ⟨M, hM⟩ : ∃ M, m - P = M := ⟨_, rfl⟩
                have hre : L.drop P = rest L := by rw [← hP, hnw]; rfl
                rw [hP, hM] at hsl2
                rw [hP, hM, hre] at hcut
                have hdis := hwb5.dis
                have hwb6 := hwb5.other hcut (fun q hq => hdis q (by rwa [hwb5.own.blk] at hq))
                have HM2 : Hid (((rest L).length : Int) = (M : Int)) := by show _ = _; have := hcut.1; omega
                have hMm : M ≤ m := by omega
                have hbit := hwa.wtr.bit
                clear hnw hcut hsl hP hM hre hdis
                go_wp2_with fail
                refine (bytes_any _ _ _ _ _ _ hwb5.own.rd hcap (Nat.le_refl _) hbit (by omega)).mono ?_
                rintro e w6 ⟨A6, n6, c6, rfl, ho6, hb6⟩
                have ho56 := ho5.keeps hb6
                have hwb7 := hwb6.keeps hb6
                go_wp2_with fail
                refine (same_any _ _ _ _ _ _ _ _ _ _ ho56.rd ho6.rd (by omega) rfl).mono ?_
                rintro e w7 ⟨rfl, q7, rfl⟩
                have hwb8 := hwb7.keeps (below_drewN (Below.refl _ _) q7)
                go_wp2_with fail
                refine (wtrBits_any _ _ _ _ _ _ _ hwb8.wtr (by have := HM2.out; omega)).mono ?_
                rintro e w8 ⟨rfl, q8, rfl⟩
                rw [HM2.out]
                go_wp2
                go_roundw
                case rel => exact ⟨k + 1, M, _, 0, 0, _, none, _, by omega, by omega, by go_num, rfl, hwb7.keeps (below_drewN (Below.refl _ _) (q7 + q8)), by have := HM.out; show _ ≤ _; omega⟩
                case measure => simp [intOf]; omega
              · have hz4 : (z == 4) = false := by simpa using h4
                go_wp2_with fail
                refine (wtrBits_any _ _ _ _ _ _ _ hwa.wtr hLl).mono ?_
                rintro e w7 ⟨rfl, q7, rfl⟩
                rw [← hmL2.out]
                go_wp2
                go_roundw
                case rel => exact ⟨k + 1, m, d, nw, cw, A1, Aw, L, by omega, by omega, by go_num, rfl, hwa.keeps (below_drewN (Below.refl _ _) q7), by have := HM.out; show _ ≤ _; omega⟩
                case measure => simp [intOf]; omega
    · have hcs : len ≤ k ∨ (k < len ∧ (100 : Int) ≤ k) := by omega
      clear hlt
      rcases hcs with hcs | ⟨hcs, hcs2⟩
      all_goals
        go_wp2_with fail
        refine (wtrAlign_any _ _ _ _ _ _ _ hwb.wtr hLl).mono ?_
        rintro e w5 ⟨A5, n5, c5, rfl, hw5, hg5, hf5⟩
        have hwb5 := hwb.wop hw5 hg5 hf5
        go_wp2_with fail
        refine (wtrTake_any _ _ _ _ _ _ _ hwb5.wtr).mono ?_
        rintro e w6 ⟨rfl, ho6, hw6, hg6⟩
        have hwb6 := hwb5.wop hw6 (hg6.more fun q hq => .inl hq) (fun q hq => by simp [blkOf] at hq)
        have hn5 : (n5 : Int) ≤ 100000 := by have := hw5.n_eq; rw [evn_length] at this; have := HML.out; omega
        go_wp2_with fail
        refine (even_any _ _ _ _ _ _ hwb6.own.rd (Nat.le_refl _) (by omega)).mono ?_
        rintro e w7 ⟨A7, m7, c7, rfl, ho7, hb7⟩
        have hwb7 := hwb6.keeps hb7
        have ho67 := ho6.keeps hb7
        have hm7 : (m7 : Int) ≤ 1000000 := by have := ho7.1; rw [evn_length] at this; have := HML.out; omega
        go_wp2_with fail
        refine (bytes_any _ _ _ _ _ _ ho7.rd ho7.2.capLe (Nat.le_refl _) hwb.wtr.bit.evn (by omega)).mono ?_
        rintro e w8 ⟨A8, n8, c8, rfl, ho8, hb8⟩
        have hwb8 := hwb7.keeps hb8
        have ho68 := ho67.keeps hb8
        go_wp2_with fail
        refine (same_any _ _ _ _ _ _ _ _ _ _ ho68.rd ho8.rd (by omega) rfl).mono ?_
        rintro e w9 ⟨rfl, q9, rfl⟩
        have hwb9 := hwb8.keeps (below_drewN (Below.refl _ _) q9)
        have hz0 : Hid ((rest (evn L)).length = 0) := by show _ = _; rw [rest_length, evn_even]
        go_wp2_with fail
        refine (wtrBits_any _ _ _ _ _ _ _ hwb9.wtr (by rw [hz0.out]; omega)).mono ?_
        rintro e w10 ⟨rfl, q10, rfl⟩
        rw [hz0.out]
        go_wp2
        go_ret
        exact ⟨rfl, below_drewN hwb8.bel (q9 + q10)⟩
end Go.Proofs.Ytefignampkdclaa
