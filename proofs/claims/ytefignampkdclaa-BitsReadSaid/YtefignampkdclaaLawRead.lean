/-
  The walk of the statement BitsRead.
-/
import Derived.Test.YtefignampkdclaaProg
import Derived.Test.YtefignampkdclaaLawReadP
namespace Go.Proofs.Ytefignampkdclaa
open Go.RowKit
set_option linter.unusedVariables false

set_option maxRecDepth 100000 in
set_option maxHeartbeats 16000000 in
theorem bitsRead_law (A : Option Addr) (len cap : Nat) (l : List ActV) (w : World) (T : l.length = len ∧ (∀ i, i < len → ∃ ad, A = some ad ∧ RdAct w (ad.add (i * 4)) (actAt l i)) ∧ len ≤ maxLen) :
    Calls Try.prog 5 #[.slice A len cap] w fun e w' => e = .returned (.bool true) ∧ Below w.heap.size w w' := by
  obtain ⟨hll, hr, hlen⟩ := T
  have hlI : (len : Int) ≤ 9223372036854775807 := by unfold maxLen at hlen; omega
  clear hlen hll
  obtain ⟨i0, hi, hz0, hz1, hz2⟩ := info_parts fbyte_info
  have Hi := Lib.hid hi
  have Hz0 := Lib.hid hz0
  have Hz1 := Lib.hid hz1
  have Hz2 := Lib.hid hz2
  clear hi hz0 hz1 hz2
  go_enter Try.func5, Try.ntmps5
  go_wp2_with fail
  refine (rdrNew_any _).mono ?_
  rintro e w1 ⟨g, rfl, hr1, hb1⟩
  go_wp2_with fail
  refine (answers1_any _).mono ?_
  rintro e w2 ⟨rfl, hb2⟩
  have hb3 := hb1.trans (hb2.mono hb1.size)
  have hr2 := hr1.keeps hb2
  go_wp2_with fail
  go_loopw [4, 5] (RdRel w g len) (fun _ i _ => 100 - (intOf i).toNat)
  case atStart => exact ⟨0, 0, 0, 0, 0, 0, none, none, [], [], Nat.zero_le _, Nat.zero_le _, rfl, rfl, ⟨OwnO.nil_, hr2, by simp [blkOf], hb3⟩, rfl, Nat.zero_le _⟩
  case round =>
    clear hr1 hb1 hb2 hb3 hr2
    obtain ⟨k, m, d, nr, cr, a, A1, Ar, L, B, hk, hk100, rfl, rfl, hrb, HE, HM⟩ := hrel
    have hBl : B.length ≤ 1000000000000 := by have := HM.out; omega
    have hml : Hid (8 * nr - a = m) := by show _ = _; rw [hrb.own.1, HE.out, rb_length, hrb.rdr.n_eq]
    have hnB : Hid (nr = B.length) := hrb.rdr.n_eq
    have hmI : (m : Int) ≤ 300000 ∧ (0 : Int) ≤ m := by have := HM.out; have := hml.out; have := hnB.out; omega
    by_cases hlt : k < len ∧ k < 100
    · obtain ⟨hlt1, hlt2⟩ := hlt
      have hk0 : (0 : Int) ≤ k ∧ (k : Int) < len ∧ (k : Int) < 100 := by omega
      obtain ⟨ad, rfl, hact⟩ := hr k hlt1
      obtain ⟨t, ht⟩ : ∃ t : ActV, actAt l k = t := ⟨_, rfl⟩
      rw [ht] at hact
      clear ht
      obtain ⟨z, N, V, Bb, bm, bd, b⟩ := t
      obtain ⟨a0, a1, a2, a3, hal, ⟨hf0, hf1, hf2⟩, hrd, hle⟩ := hact
      dsimp only at a0 a1 a2 a3 hf0 hf1 hf2 hrd hle
      replace a0 := (hrb.bel.cell hal).trans a0
      replace a1 := (hrb.bel.cell (p := ⟨(ad.add (k * 4)).block, (ad.add (k * 4)).off + 1, none⟩) hal).trans a1
      replace a2 := (hrb.bel.cell (p := ⟨(ad.add (k * 4)).block, (ad.add (k * 4)).off + 2, none⟩) hal).trans a2
      replace a3 := (hrb.bel.cell (p := ⟨(ad.add (k * 4)).block, (ad.add (k * 4)).off + 3, none⟩) hal).trans a3
      have har := bf_new wr ⟨z, N, V, Bb, bm, bd, b⟩ 29
      have hra := hrb.keeps ((Below.refl _ wr).alloc (Nat.le_refl _) (.cells #[.int .i64 z, .int .i64 N, .int .u32 V, .slice Bb bm bd] 29))
      dsimp only at har
      have htm : (bm : Int) ≤ 9223372036854775807 := by unfold maxLen at hle; omega
      have hby : ∀ x ∈ b, 0 ≤ x ∧ x < 256 := fun x hx => bounds_u8 (hf2 x hx)
      have hnf : ¬ foot Ar g wr.heap.size := fun h => by have := (hrb.rdr.foot_lo h).2; omega
      have hgne : wr.heap.size ≠ g := fun h => hnf (.inl h)
      by_cases hbig : 300 < (bm : Int)
      · go_wp2
        go_roundw
        case rel => exact ⟨k + 1, m, d, nr, cr, a, A1, Ar, L, B, by omega, by omega, by go_num, rfl, hra, HE, by have := HM.out; show _ ≤ _; omega⟩
        case measure => simp [intOf]; omega
      · have hs3 : bm ≤ 300 := by omega
        by_cases h1 : z = 1
        · as_aux_lemma =>
            subst h1
            have e0 := har.cell (i := 0) (by omega)
            have e3 := har.cell (i := 3) (by omega)
            unfold bf at e0 e3
            obtain ⟨wo, hwo⟩ : ∃ wo : World, wo = wr.alloc (.cells #[.int .i64 1, .int .i64 N, .int .u32 V, .slice Bb bm bd] 29) := ⟨_, rfl⟩
            rw [← hwo] at hra har
            have hr5 : RdI .u8 wo w.heap.size Bb bm b := hrd.below hra.bel
            have hr5a := hr5.alloc hra.bel.size (.cells #[] 5)
            have hara := har.alloc (.cells #[] 5)
            have e3a := hara.cell (i := 3) (by omega)
            unfold bf at e3a
            have hwz : wr.heap.size + 1 = wo.heap.size := by rw [hwo]; simp
            have hozl := OwnI.lit (k := .u8) (b0 := wr.heap.size + 1) (w := wo) hwz [] 5 (Nat.le_of_eq hwz) (by simp)
            subst hwo
            clear hwz
            have HBN : Hid (bm = b.length) := hrd.1
            go_wp2_with (at_builtin; (refine wpList_app .u8 _ 5 i0 1 rfl (.tmp 47) (.tmp 49) _ rfl Try.underlying26 Hi.out Hz0.out Hz1.out Hz2.out rfl hozl rfl hr5a (by omega) (by omega) (by simp) ?_)
                         intro A6 d6 w6 hown6 hg6 hat6)
            rw [List.nil_append, Nat.zero_add] at hown6
            have hb6 : Below wr.heap.size wr w6 := (((Below.refl _ wr).alloc (Nat.le_refl _) _).alloc (by simp) _).grown hg6 (by simp; omega) (by simp [blkOf])
            have hrb6 := hrb.keeps hb6
            have har6 := hara.grown hg6 (by simp [blkOf])
            go_wp2_with fail
            refine (rdrFeed_any _ _ _ _ _ _ _ _ _ _ _ _ _ hrb6.rdr hown6.rd (Nat.le_refl _) hby (by have := HM.out; have := HBN.out; omega)).mono ?_
            rintro e w7 ⟨A7, n7, c7, rfl, hr7, hg7, hA7⟩
            have hrb7 := hrb6.rop hr7 hg7 fun q hq => .inr (hA7 q hq)
            have har7 := hg7.ar har6 hgne
            have hown7 := hg7.own hown6.2 (fun q hq h => by have := (hown6.2.lt hq).1; have := hrb.rdr.cell.lt; omega)
            have hq7 : ∀ q, blkOf A6 = some q → blkOf A1 ≠ some q ∧ ¬ foot A7 g q ∧ wr.heap.size ≠ q := fun q hq => by
              have h1 := (hown6.2.lt hq).1
              have h2 := (hown6.2.lt hq).2
              refine ⟨fun h => by have := (hrb.own.lt h).2; omega, fun h => ?_, by omega⟩
              rcases h with h | h
              · have := hrb.rdr.cell.lt; omega
              · have := hA7 q h; omega
            have hbs := (Nat.le_trans hrb.bel.size (Nat.le_succ wr.heap.size))
            have hn7 : Hid (8 * n7 - a % 8 = m + 8 * bm) := by
              show _ = _
              have h1 := hr7.n_eq
              rw [List.length_append, List.length_drop] at h1
              have := hml.out; have := hnB.out; have := HBN.out; have := hrb.rdr.le
              omega
            have hB7 : Hid ((B.drop (a / 8) ++ b).length ≤ 300 * (k + 1)) := by show _ ≤ _; rw [List.length_append, List.length_drop]; have := HM.out; have := HBN.out; omega
            have hE7 : Hid (L ++ bts b = rb (B.drop (a / 8) ++ b) (a % 8)) := by show _ = _; rw [rb_feed _ _ hrb.rdr.le, HE.out]
            have hB7l : (B.drop (a / 8) ++ b).length ≤ 1000000000000 := by have := hB7.out; omega
            obtain ⟨B7, hB7e⟩ : ∃ B7, B.drop (a / 8) ++ b = B7 := ⟨_, rfl⟩
            obtain ⟨a7, ha7e⟩ : ∃ a7, a % 8 = a7 := ⟨_, rfl⟩
            rw [hB7e, ha7e] at hrb7 hE7
            rw [hB7e] at hB7 hB7l
            rw [ha7e] at hn7
            have ho7m := hown7.more hbs
            clear hB7e ha7e e3a hb6 hrb6 har6 hg6 hg7 hr7 hown6 hown7 hara hr5a hozl hr5 hra har hat6 hA7
            go_wp2_with fail
            go_loopw [9] (TurnB w g bm d6 m d n7 c7 a7 A6 A1 A7 L B7 wr.heap.size ⟨1, N, V, Bb, bm, bd, b⟩) (fun j _ => bm - (intOf j).toNat)
            case atStart => exact ⟨0, _, Nat.zero_le _, rfl, ho7m, hrb7, hq7, har7⟩
            case round =>
              clear har7 hrb7 hq7 ho7m
              obtain ⟨p, v, hp, rfl, o8, hrb8, hq8, har8⟩ := hrel
              have har8 : Go.Proofs.Ytefignampkdclaa.Ar _ _ 4 _ := har8
              by_cases hpb : p < bm
              · have hpI : (p : Int) < (bm : Int) ∧ (0 : Int) ≤ p := by omega
                obtain ⟨gb, rfl⟩ := o8.addr (by omega)
                have c8 := o8.cell (i := p) (by omega)
                have z8 := o8.frozen p
                obtain ⟨vv, hvv⟩ : ∃ vv : Int, v p = vv := ⟨_, rfl⟩
                rw [hvv] at c8
                clear hvv
                go_wp2_with fail
                go_roundw
                case rel => exact TurnB.next hpb o8 hrb8 hq8 har8 _ (by go_num)
                case measure => simp [intOf]; omega
              · have hpI : (bm : Int) ≤ (p : Int) := by omega
                have e3 := har8.cell (i := 3) (by omega)
                unfold bf at e3
                go_wp2_with fail
                refine (bits_any _ _ _ _ _ _ (hrd.below hrb8.bel) hrb8.bel.size hby (by omega)).mono ?_
                rintro e w9 ⟨A9, n9, c9, rfl, ho9, hb9⟩
                have hrb9 := hrb8.keeps hb9
                have hn9 : n9 = 8 * bm := by rw [ho9.1, bts_length, ← HBN.out]
                have hn9b : m + n9 ≤ 1000000000000 := by omega
                have HN9 := Lib.hid hn9
                clear hn9
                go_wp2_with (at_builtin; (refine wpList_appO .u8 w.heap.size 5 i0 1 rfl (.tmp 66) (.tmp 69) _ rfl Try.underlying26 Hi.out Hz0.out Hz1.out Hz2.out rfl hrb9.own rfl ho9.rd hn9b (by omega) hrb9.bel.size ?_)
                             intro A10 c10 w10 hown10 hg10 hat10)
                have hrb10 := hrb9.grow hown10 hg10 hat10
                have hl10 : Hid (8 * n7 - a7 = m + n9) := by show _ = _; rw [hn7.out, HN9.out]
                go_wp2_with fail
                refine (rdrLeft_any _ _ _ _ _ _ _ _ hrb10.rdr hB7l).mono ?_
                rintro e w11 ⟨rfl, q11, rfl⟩
                rw [hl10.out]
                go_wp2
                go_roundw
                case rel => exact ⟨k + 1, m + n9, c10, n7, c7, a7, A10, A7, _, B7, by omega, by omega, by go_num, rfl, hrb10.drewN q11, hE7, hB7⟩
                case measure => simp [intOf]; omega
        · have hz1 : (z == 1) = false := by simpa using h1
          by_cases h2 : z = 2 ∨ z = 3
          · as_aux_lemma =>
              have hLm : Hid ((rb B a).length = m) := by show _ = _; rw [rb_length]; have := hml.out; have := hnB.out; omega
              by_cases hN : N < 0 ∨ 32 < N ∨ (m : Int) < N
              · have hN2 : (N < 0 ∧ (0 ≤ N) = False) ∨ (0 ≤ N ∧ (N ≤ 32) = False) ∨ (0 ≤ N ∧ N ≤ 32 ∧ (N ≤ (m : Int)) = False) := by
                  rcases (show N < 0 ∨ (0 ≤ N ∧ ¬ N ≤ 32) ∨ (0 ≤ N ∧ N ≤ 32 ∧ ¬ N ≤ (m : Int)) by omega) with h | ⟨h, h'⟩ | ⟨h, h', h''⟩
                  · exact .inl ⟨h, eq_false (by omega)⟩
                  · exact .inr (.inl ⟨h, eq_false h'⟩)
                  · exact .inr (.inr ⟨h, h', eq_false h''⟩)
                have HN : Hid (N < 0 ∨ 32 < N ∨ ((rb B a).length : Int) < N) := by show _ ∨ _ ∨ _; rw [hLm.out]; exact hN
                clear hN
                rcases h2 with rfl | rfl
                · have e0 := har.cell (i := 0) (by omega)
                  have e1 := har.cell (i := 1) (by omega)
                  unfold bf at e0 e1
                  rcases hN2 with ⟨hN2, hN3⟩ | ⟨hN2, hN3⟩ | ⟨hN2, hN3, hN4⟩
                  all_goals
                    go_wp2_with fail
                    refine (peek_not _ _ _ _ _ _ _ _ hra.rdr hBl N HN.out).mono ?_
                    rintro e w5 ⟨rfl, q5, rfl⟩
                    have hrX := hra.drewN q5
                    go_wp2_with fail
                    refine (rdrLeft_any _ _ _ _ _ _ _ _ hrX.rdr hBl).mono ?_
                    rintro e w9 ⟨rfl, q9, rfl⟩
                    rw [hml.out]
                    go_wp2
                    go_roundw
                    case rel => exact ⟨k + 1, m, d, nr, cr, a, A1, Ar, L, B, by omega, by omega, by go_num, rfl, hra.drewN (q5 + q9), HE, by have := HM.out; show _ ≤ _; omega⟩
                    case measure => simp [intOf]; omega
                · have e0 := har.cell (i := 0) (by omega)
                  have e1 := har.cell (i := 1) (by omega)
                  unfold bf at e0 e1
                  rcases hN2 with ⟨hN2, hN3⟩ | ⟨hN2, hN3⟩ | ⟨hN2, hN3, hN4⟩
                  all_goals
                    go_wp2_with fail
                    refine (peek_not _ _ _ _ _ _ _ _ hra.rdr hBl N HN.out).mono ?_
                    rintro e w5 ⟨rfl, q5, rfl⟩
                    go_wp2_with fail
                    refine (get_not _ _ _ _ _ _ _ _ (hra.drewN q5).rdr hBl N HN.out).mono ?_
                    rintro e w6 ⟨rfl, q6, rfl⟩
                    have hrX := hra.drewN (q5 + q6)
                    go_wp2_with fail
                    refine (rdrLeft_any _ _ _ _ _ _ _ _ hrX.rdr hBl).mono ?_
                    rintro e w9 ⟨rfl, q9, rfl⟩
                    rw [hml.out]
                    go_wp2
                    go_roundw
                    case rel => exact ⟨k + 1, m, d, nr, cr, a, A1, Ar, L, B, by omega, by omega, by go_num, rfl, hra.drewN ((q5 + q6) + q9), HE, by have := HM.out; show _ ≤ _; omega⟩
                    case measure => simp [intOf]; omega
              · obtain ⟨P, rfl⟩ := Int.eq_ofNat_of_zero_le (show 0 ≤ N by omega)
                have hP : (P : Int) ≤ 32 ∧ (0 : Int) ≤ P ∧ (P : Int) ≤ (m : Int) := by omega
                have hPm : P ≤ m := by omega
                have hPl : P ≤ (rb B a).length := by rw [hLm.out]; exact hPm
                have hPd : P ≤ d := Nat.le_trans hPm hra.own.capLe
                obtain ⟨X, hX⟩ : ∃ X, numI ((rb B a).take P) = X := ⟨_, rfl⟩
                have hXL : numI (L.take P) = X := by rw [HE.out, hX]
                have hbit : Bit (L.take P) := by rw [HE.out]; exact (Bit.rb B a).take_ P
                have hXb := numI_bd ((Bit.rb B a).take_ P)
                have hp32 := pow_mono2 (show ((rb B a).take P).length ≤ 32 by simp; omega)
                have h32 : (2 : Int) ^ 32 = 4294967296 := rfl
                rw [hX] at hXb
                have hXI : 0 ≤ X ∧ X < 4294967296 := by omega
                have HX := Lib.hid hX
                have HXL := Lib.hid hXL
                have hsl := run_slice_to (P := Try.prog) 26 5 Try.underlying26 Hi.out Hz1.out A1 m d hPd
                have hsl2 := run_slice_from (P := Try.prog) 26 5 Try.underlying26 Hi.out Hz1.out A1 m d hPm
                clear hN hX hXL hXb hp32 h32
                rcases h2 with rfl | rfl
                · have e0 := har.cell (i := 0) (by omega)
                  have e1 := har.cell (i := 1) (by omega)
                  unfold bf at e0 e1
                  go_wp2_with fail
                  refine (peek_ok _ _ _ _ _ _ _ _ hra.rdr hBl P hP.1 hPl).mono ?_
                  rintro e w5 ⟨rfl, q5, rfl⟩
                  rw [HX.out]
                  go_wp2_with fail
                  refine (number_any _ _ _ _ _ _ ((hra.drewN q5).own.rd.pre hPm) hbit hP.1).mono ?_
                  rintro e w7 ⟨rfl, rfl⟩
                  rw [HXL.out]
                  have hrX := hra.drewN q5
                  go_wp2_with fail
                  refine (rdrLeft_any _ _ _ _ _ _ _ _ hrX.rdr hBl).mono ?_
                  rintro e w9 ⟨rfl, q9, rfl⟩
                  rw [hml.out]
                  go_wp2
                  go_roundw
                  case rel => exact ⟨k + 1, m, d, nr, cr, a, A1, Ar, L, B, by omega, by omega, by go_num, rfl, hra.drewN (q5 + q9), HE, by have := HM.out; show _ ≤ _; omega⟩
                  case measure => simp [intOf]; omega
                · have e0 := har.cell (i := 0) (by omega)
                  have e1 := har.cell (i := 1) (by omega)
                  unfold bf at e0 e1
                  go_wp2_with fail
                  refine (peek_ok _ _ _ _ _ _ _ _ hra.rdr hBl P hP.1 hPl).mono ?_
                  rintro e w5 ⟨rfl, q5, rfl⟩
                  rw [HX.out]
                  go_wp2_with fail
                  refine (get_ok _ _ _ _ _ _ _ _ (hra.drewN q5).rdr hBl P hP.1 hPl).mono ?_
                  rintro e w6 ⟨rfl, hr6, hg6⟩
                  rw [HX.out]
                  have hrb6 := (hra.drewN q5).rop hr6 hg6 fun q hq => .inl hq
                  have har6 := hg6.ar (har.drewN q5) hgne
                  have e16 := har6.cell (i := 1) (by omega)
                  have e06 := har6.cell (i := 0) (by omega)
                  unfold bf at e16 e06
                  go_wp2_with fail
                  refine (number_any _ _ _ _ _ _ (hrb6.own.rd.pre hPm) hbit hP.1).mono ?_
                  rintro e w7 ⟨rfl, rfl⟩
                  rw [HXL.out]
                  have hrX := hrb6.cut hPm
                  have hlX : Hid (8 * nr - (a + P) = m - P) := by show _ = _; have := hml.out; omega
                  have hEX : Hid (L.drop P = rb B (a + P)) := by show _ = _; rw [HE.out, rb_drop]
                  go_wp2_with fail
                  refine (rdrLeft_any _ _ _ _ _ _ _ _ hrX.rdr hBl).mono ?_
                  rintro e w9 ⟨rfl, q9, rfl⟩
                  rw [hlX.out]
                  go_wp2
                  go_roundw
                  case rel => exact ⟨k + 1, m - P, _, nr, cr, a + P, _, Ar, _, B, by omega, by omega, by go_num, rfl, hrX.drewN q9, hEX, by have := HM.out; show _ ≤ _; omega⟩
                  case measure => simp [intOf]; omega
          · have hz2 : (z == 2) = false ∧ (z == 3) = false := by constructor <;> simp <;> omega
            obtain ⟨hz2, hz3⟩ := hz2
            by_cases h4 : z = 4
            · as_aux_lemma =>
                subst h4
                have e0 := har.cell (i := 0) (by omega)
                unfold bf at e0
                obtain ⟨ev, hev⟩ : ∃ ev : Nat, m % 8 = ev := ⟨_, rfl⟩
                have hevI : (m : Int) % 8 = (ev : Int) := by omega
                have hevb : (0 : Int) ≤ ev ∧ (ev : Int) ≤ (m : Int) ∧ ev ≤ m := by omega
                have hsl := run_slice_from (P := Try.prog) 26 5 Try.underlying26 Hi.out Hz1.out A1 m d hevb.2.2
                have hal2 : Hid (a + ev = (a + 7) / 8 * 8) := by show _ = _; have := rb_align B hrb.rdr.le; have := hml.out; have := hnB.out; rw [← hev]; omega
                have hml2 : Hid (8 * nr - (a + 7) / 8 * 8 = m - ev) := by show _ = _; have := hml.out; have := hal2.out; omega
                have hEq : Hid (L.drop ev = rb B ((a + 7) / 8 * 8)) := by show _ = _; rw [HE.out, rb_drop, hal2.out]
                clear hev
                go_wp2_with fail
                refine (rdrAlign_any _ _ _ _ _ _ _ _ hra.rdr hBl).mono ?_
                rintro e w5 ⟨rfl, hr5, hg5⟩
                have hrb5 := (hra.rop hr5 hg5 fun q hq => .inl hq).cut hevb.2.2
                go_wp2_with fail
                refine (rdrLeft_any _ _ _ _ _ _ _ _ hrb5.rdr hBl).mono ?_
                rintro e w9 ⟨rfl, q9, rfl⟩
                rw [hml2.out]
                go_wp2
                go_roundw
                case rel => exact ⟨k + 1, m - ev, _, nr, cr, _, _, Ar, _, B, by omega, by omega, by go_num, rfl, hrb5.drewN q9, hEq, by have := HM.out; show _ ≤ _; omega⟩
                case measure => simp [intOf]; omega
            · have hz4 : (z == 4) = false := by simpa using h4
              by_cases h5 : z = 5
              · as_aux_lemma =>
                  subst h5
                  have e0 := har.cell (i := 0) (by omega)
                  have e1 := har.cell (i := 1) (by omega)
                  unfold bf at e0 e1
                  obtain ⟨ev, hev⟩ : ∃ ev : Nat, m % 8 = ev := ⟨_, rfl⟩
                  have hevI : (m : Int) % 8 = (ev : Int) := by omega
                  have hevb : (0 : Int) ≤ ev ∧ (ev : Int) ≤ (m : Int) ∧ ev ≤ m := by omega
                  have hsl := run_slice_from (P := Try.prog) 26 5 Try.underlying26 Hi.out Hz1.out A1 m d hevb.2.2
                  have hal2 : Hid (a + ev = (a + 7) / 8 * 8) := by show _ = _; have := rb_align B hrb.rdr.le; have := hml.out; have := hnB.out; rw [← hev]; omega
                  obtain ⟨a1, ha1⟩ : ∃ a1, (a + 7) / 8 = a1 := ⟨_, rfl⟩
                  obtain ⟨q, hq⟩ : ∃ q, nr - a1 = q := ⟨_, rfl⟩
                  obtain ⟨M1, hM1⟩ : ∃ M1, m - ev = M1 := ⟨_, rfl⟩
                  obtain ⟨D1, hD1⟩ : ∃ D1, d - ev = D1 := ⟨_, rfl⟩
                  obtain ⟨C1, hC1⟩ : ∃ C1, cutA A1 d ev = C1 := ⟨_, rfl⟩
                  have hM18 : M1 = 8 * q := by have := hal2.out; have := hml.out; omega
                  obtain ⟨K, hK⟩ : ∃ K : Nat, (K : Int) = max 0 (min N (q : Int)) := ⟨(max 0 (min N (q : Int))).toNat, by omega⟩
                  have hKq : K ≤ q := by omega
                  have hK2 : Hid ((K : Int) = max 0 (min N ((nr - (a + 7) / 8 : Nat) : Int))) := by show _ = _; rw [ha1, hq]; exact hK
                  have hq8 : (M1 : Int) / 8 = (q : Int) := by omega
                  have hqb : (0 : Int) ≤ (M1 : Int) ∧ (M1 : Int) ≤ 300000 ∧ (K : Int) ≤ (q : Int) ∧ (0 : Int) ≤ K ∧ (0 : Int) ≤ q ∧ (q : Int) ≤ 300000 := by omega
                  have hKM : 8 * K ≤ M1 := by omega
                  have hcut := hra.own.cut hevb.2.2
                  rw [hC1, hM1, hD1] at hsl hcut
                  have hcap1 := hcut.capLe
                  have hKD : 8 * K ≤ D1 := by omega
                  have hs1 := run_slice_to (P := Try.prog) 26 5 Try.underlying26 Hi.out Hz1.out C1 M1 D1 hKD
                  have hs2 := run_slice_from (P := Try.prog) 26 5 Try.underlying26 Hi.out Hz1.out C1 M1 D1 hKM
                  have hs1b : ∀ W, (Instr.slice 26 (.slice C1 M1 D1) none (some (.int .i64 (8 * (K : Int)))) none).run Try.prog W = .ok (.slice C1 (8 * K) D1) W := fun W => by have := hs1 W; rwa [Int.natCast_mul] at this
                  have hs2b : ∀ W, (Instr.slice 26 (.slice C1 M1 D1) (some (.int .i64 (8 * (K : Int)))) none none).run Try.prog W = .ok (.slice (cutA C1 D1 (8 * K)) (M1 - 8 * K) (D1 - 8 * K)) W := fun W => by have := hs2 W; rwa [Int.natCast_mul] at this
                  have HS1 : Hid (∀ W, (Instr.slice 26 (.slice C1 M1 D1) none (some (.int .i64 (8 * (K : Int)))) none).run Try.prog W = .ok (.slice C1 (8 * K) D1) W) := hs1b
                  have HS2 : Hid (∀ W, (Instr.slice 26 (.slice C1 M1 D1) (some (.int .i64 (8 * (K : Int)))) none none).run Try.prog W = .ok (.slice (cutA C1 D1 (8 * K)) (M1 - 8 * K) (D1 - 8 * K)) W) := hs2b
                  have hLd : L.drop ev = rb B (8 * a1) := by rw [HE.out, rb_drop, hal2.out, ha1, Nat.mul_comm]
                  have hbyt : Hid ((B.drop ((a + 7) / 8)).take K = byt ((L.drop ev).take (8 * K))) := by show _ = _; rw [hLd, rb_bytes B hrb.rdr.by_, ha1]
                  have hbit : Bit ((L.drop ev).take (8 * K)) := by rw [hLd]; exact (Bit.rb B _).take_ _
                  have hEq : Hid ((L.drop ev).drop (8 * K) = rb B ((a + 7) / 8 * 8 + 8 * K)) := by show _ = _; rw [hLd, rb_drop, ha1, Nat.mul_comm a1 8]
                  have hlX : Hid (8 * nr - ((a + 7) / 8 * 8 + 8 * K) = M1 - 8 * K) := by show _ = _; rw [ha1]; omega
                  have hNs : ((q : Int) < N ∧ q = K) ∨ (¬ (q : Int) < N ∧ N < 0 ∧ K = 0) ∨ (¬ (q : Int) < N ∧ 0 ≤ N ∧ N = (K : Int)) := by omega
                  have hd1 := hra.dis
                  have hC1b : blkOf C1 = blkOf A1 := by rw [← hC1]; exact hra.own.blk ev
                  have HC1B := Lib.hid hC1b
                  have HCUT := Lib.hid hcut
                  have HD1 : Hid (∀ q, blkOf A1 = some q → ¬ foot Ar g q) := hd1
                  have HM18 := Lib.hid hM18
                  clear hev ha1 hq hM1 hD1 hC1 hK hs1 hs2 hs1b hs2b hLd hcut hC1b hM18 hd1
                  rcases hNs with ⟨hN1, rfl⟩ | ⟨hN1, hN2, rfl⟩ | ⟨hN1, hN2, rfl⟩
                  · skip
                    go_wp2_with fail
                    refine (rdrRead_any _ _ _ _ _ _ _ _ hra.rdr hBl _ _ hK2.out).mono ?_
                    rintro e w5 ⟨A5, c5, rfl, ho5, hr5, hg5⟩
                    have hrb5 := hra.rop hr5 hg5 fun q hq => .inl hq
                    have har5 := hg5.ar har hgne
                    have e15 := har5.cell (i := 1) (by omega)
                    unfold bf at e15
                    have ho1 := HCUT.out.chg hg5 (fun q hq e => HD1.out q (by rw [← HC1B.out]; exact hq) (.inl e))
                    have hs1 := HS1.out
                    have hs2 := HS2.out
                    go_wp2_with fail
                    refine (bytes_any _ _ _ _ _ _ (ho1.rd.pre hKM) hKD (Nat.le_refl _) hbit (by omega)).mono ?_
                    rintro e w6 ⟨A6, n6, c6, rfl, ho6, hb6⟩
                    have ho56 := ho5.keeps hb6
                    go_wp2_with fail
                    refine (same_any _ _ _ _ _ _ _ _ _ _ ho56.rd ho6.rd (by omega) hbyt.out).mono ?_
                    rintro e w7 ⟨rfl, q7, rfl⟩
                    have hrb7 := (((hrb5.keeps hb6).drewN q7).other ((ho1.keeps hb6).drewN q7) (fun q hq => HD1.out q (by rw [← HC1B.out]; exact hq))).cut hKM
                    go_wp2_with fail
                    refine (rdrLeft_any _ _ _ _ _ _ _ _ hrb7.rdr hBl).mono ?_
                    rintro e w9 ⟨rfl, q9, rfl⟩
                    rw [hlX.out]
                    go_wp2
                    go_roundw
                    case rel => exact ⟨k + 1, M1 - 8 * q, _, nr, cr, _, _, Ar, _, B, by omega, by omega, by go_num, rfl, (((hrb5.keeps hb6).other (ho1.keeps hb6) (fun q hq => HD1.out q (by rw [← HC1B.out]; exact hq))).cut hKM).drewN (q7 + q9), hEq, by have := HM.out; show _ ≤ _; omega⟩
                    case measure => simp [intOf]; omega
                  · skip
                    go_wp2_with fail
                    refine (rdrRead_any _ _ _ _ _ _ _ _ hra.rdr hBl _ _ hK2.out).mono ?_
                    rintro e w5 ⟨A5, c5, rfl, ho5, hr5, hg5⟩
                    have hrb5 := hra.rop hr5 hg5 fun q hq => .inl hq
                    have har5 := hg5.ar har hgne
                    have e15 := har5.cell (i := 1) (by omega)
                    unfold bf at e15
                    have ho1 := HCUT.out.chg hg5 (fun q hq e => HD1.out q (by rw [← HC1B.out]; exact hq) (.inl e))
                    have hs1 : ∀ W, (Instr.slice 26 (.slice C1 M1 D1) none (some (.int .i64 0)) none).run Try.prog W = .ok (.slice C1 (8 * 0) D1) W := HS1.out
                    have hs2 : ∀ W, (Instr.slice 26 (.slice C1 M1 D1) (some (.int .i64 0)) none none).run Try.prog W = .ok (.slice (cutA C1 D1 (8 * 0)) (M1 - 8 * 0) (D1 - 8 * 0)) W := HS2.out
                    go_wp2_with fail
                    refine (bytes_any _ _ _ _ _ _ (ho1.rd.pre hKM) hKD (Nat.le_refl _) hbit (by omega)).mono ?_
                    rintro e w6 ⟨A6, n6, c6, rfl, ho6, hb6⟩
                    have ho56 := ho5.keeps hb6
                    go_wp2_with fail
                    refine (same_any _ _ _ _ _ _ _ _ _ _ ho56.rd ho6.rd (by omega) hbyt.out).mono ?_
                    rintro e w7 ⟨rfl, q7, rfl⟩
                    have hrb7 := (((hrb5.keeps hb6).drewN q7).other ((ho1.keeps hb6).drewN q7) (fun q hq => HD1.out q (by rw [← HC1B.out]; exact hq))).cut hKM
                    go_wp2_with fail
                    refine (rdrLeft_any _ _ _ _ _ _ _ _ hrb7.rdr hBl).mono ?_
                    rintro e w9 ⟨rfl, q9, rfl⟩
                    rw [hlX.out]
                    go_wp2
                    go_roundw
                    case rel => exact ⟨k + 1, M1 - 8 * 0, _, nr, cr, _, _, Ar, _, B, by omega, by omega, by go_num, rfl, (((hrb5.keeps hb6).other (ho1.keeps hb6) (fun q hq => HD1.out q (by rw [← HC1B.out]; exact hq))).cut hKM).drewN (q7 + q9), hEq, by have := HM.out; show _ ≤ _; omega⟩
                    case measure => simp [intOf]; omega
                  · skip
                    go_wp2_with fail
                    refine (rdrRead_any _ _ _ _ _ _ _ _ hra.rdr hBl _ _ hK2.out).mono ?_
                    rintro e w5 ⟨A5, c5, rfl, ho5, hr5, hg5⟩
                    have hrb5 := hra.rop hr5 hg5 fun q hq => .inl hq
                    have har5 := hg5.ar har hgne
                    have e15 := har5.cell (i := 1) (by omega)
                    unfold bf at e15
                    have ho1 := HCUT.out.chg hg5 (fun q hq e => HD1.out q (by rw [← HC1B.out]; exact hq) (.inl e))
                    have hs1 := HS1.out
                    have hs2 := HS2.out
                    go_wp2_with fail
                    refine (bytes_any _ _ _ _ _ _ (ho1.rd.pre hKM) hKD (Nat.le_refl _) hbit (by omega)).mono ?_
                    rintro e w6 ⟨A6, n6, c6, rfl, ho6, hb6⟩
                    have ho56 := ho5.keeps hb6
                    go_wp2_with fail
                    refine (same_any _ _ _ _ _ _ _ _ _ _ ho56.rd ho6.rd (by omega) hbyt.out).mono ?_
                    rintro e w7 ⟨rfl, q7, rfl⟩
                    have hrb7 := (((hrb5.keeps hb6).drewN q7).other ((ho1.keeps hb6).drewN q7) (fun q hq => HD1.out q (by rw [← HC1B.out]; exact hq))).cut hKM
                    go_wp2_with fail
                    refine (rdrLeft_any _ _ _ _ _ _ _ _ hrb7.rdr hBl).mono ?_
                    rintro e w9 ⟨rfl, q9, rfl⟩
                    rw [hlX.out]
                    go_wp2
                    go_roundw
                    case rel => exact ⟨k + 1, M1 - 8 * K, _, nr, cr, _, _, Ar, _, B, by omega, by omega, by go_num, rfl, (((hrb5.keeps hb6).other (ho1.keeps hb6) (fun q hq => HD1.out q (by rw [← HC1B.out]; exact hq))).cut hKM).drewN (q7 + q9), hEq, by have := HM.out; show _ ≤ _; omega⟩
                    case measure => simp [intOf]; omega
              · have hz5 : (z == 5) = false := by simpa using h5
                go_wp2_with fail
                refine (rdrLeft_any _ _ _ _ _ _ _ _ hra.rdr hBl).mono ?_
                rintro e w9 ⟨rfl, q9, rfl⟩
                rw [hml.out]
                go_wp2
                go_roundw
                case rel => exact ⟨k + 1, m, d, nr, cr, a, A1, Ar, L, B, by omega, by omega, by go_num, rfl, hra.drewN q9, HE, by have := HM.out; show _ ≤ _; omega⟩
                case measure => simp [intOf]; omega
    · have hcs : len ≤ k ∨ (k < len ∧ (100 : Int) ≤ k) := by omega
      clear hlt
      rcases hcs with hcs | ⟨hcs, hcs2⟩
      all_goals
        go_wp2
        go_ret
        exact ⟨rfl, hrb.bel⟩
end Go.Proofs.Ytefignampkdclaa
