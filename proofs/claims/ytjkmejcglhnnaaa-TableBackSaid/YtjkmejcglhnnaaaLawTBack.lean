/-
  The walk of the statement TableBack.
-/
import Derived.Test.YtjkmejcglhnnaaaProg
import Derived.Test.YtjkmejcglhnnaaaAns6
import Derived.Test.YtjkmejcglhnnaaaTBackS
import Derived.Test.YtjkmejcglhnnaaaRBits
import Derived.Test.YtjkmejcglhnnaaaRCheck
import Derived.Test.YtjkmejcglhnnaaaSame
import Derived.Test.YtjkmejcglhnnaaaOpenC
namespace Go.Proofs.Ytjkmejcglhnnaaa
open Go.RowKit
set_option linter.unusedVariables false

def BackRel (wB : World) (b0 b1 gw gr : Nat) (l ls : List Int) (n2 : Nat) (x y i : Value) (wr : World) : Prop :=
  ∃ (k nw cw nx cx ny cy : Nat) (Aw Ax Ay : Option Addr), k ≤ n2 ∧ i = .int .i64 k ∧ x = .slice Ax nx cx ∧ y = .slice Ay ny cy ∧ BSt wB b0 b1 gw gr Aw nw cw (allT l (wantT l ls k)) Ax nx cx (wantT l ls k) Ay ny cy (allT l (wantT l ls k)) wr
def BackRel2 (wB : World) (b0 b1 cx gr : Nat) (l W z : List Int) (Bs : List Int) (A : Option Addr) (n c : Nat) (Ax : Option Addr) (nx : Nat) (i : Value) (wr : World) : Prop :=
  ∃ k a : Nat, k ≤ W.length ∧ i = .int .i64 k ∧ Rdr wr b0 gr A n c Bs a ∧ a = (allT l (W.take k)).length ∧ OwnI .i64 wr b1 3 Ax nx cx W ∧ Below b0 wB wr

set_option maxRecDepth 100000 in
set_option maxHeartbeats 8000000 in
theorem tableBack_law (A : Option Addr) (n c : Nat) (l : List Int) (A' : Option Addr) (n' c' : Nat) (ls : List Int) (w : World) (T : InC .i64 w A n c l) (T' : InC .i64 w A' n' c' ls) :
    Calls Try.prog 5 #[.slice A n c, .slice A' n' c'] w fun e w' => e = .returned (.bool true) ∧ Below w.heap.size w w' := by
  obtain ⟨R, m0, f0, lc0, cm0⟩ := T
  obtain ⟨R', m0', f0', lc', cm0'⟩ := T'
  have hn : (n : Int) ≤ 9223372036854775807 := by unfold maxLen at m0; omega
  have hn' : (n' : Int) ≤ 9223372036854775807 := by unfold maxLen at m0'; omega
  have hwf : ∀ x ∈ ls, -9223372036854775808 ≤ x ∧ x ≤ 9223372036854775807 := fun x hx => bounds_i64 (f0' x hx)
  clear m0 f0 cm0 m0' f0' cm0'
  by_cases h288 : 288 < (n : Int)
  · go_enter Try.func5, Try.ntmps5
    go_wp2_with fail
    refine (answers6_any _).mono ?_
    rintro e w4 ⟨rfl, hb4⟩
    go_wp2
    go_ret
    exact ⟨rfl, hb4⟩
  by_cases h300 : 300 < (n' : Int)
  · go_enter Try.func5, Try.ntmps5
    go_wp2_with fail
    refine (answers6_any _).mono ?_
    rintro e w4 ⟨rfl, hb4⟩
    go_wp2
    go_ret
    exact ⟨rfl, hb4⟩
  have hn1 : (n : Int) ≤ 288 ∧ (0 : Int) ≤ n := by omega
  have hn1' : (n' : Int) ≤ 300 ∧ (0 : Int) ≤ n' := by omega
  by_cases hck : checkOf l 15 = 0
  · obtain ⟨hl288, hin, hS⟩ := check_ok' hck
    have HCK := Lib.hid hck
    have HN := Lib.hid R.1
    have HN' := Lib.hid R'.1
    obtain ⟨i0, hi, hz0, hz1, hz2⟩ := info_parts tint_info
    have Hi := Lib.hid hi
    have Hz0 := Lib.hid hz0
    have Hz1 := Lib.hid hz1
    have Hz2 := Lib.hid hz2
    clear hi hz0 hz1 hz2
    obtain ⟨i1, hi, hz0, hz1, hz2⟩ := info_parts fbyte_info
    have Ki := Lib.hid hi
    have Kz0 := Lib.hid hz0
    have Kz1 := Lib.hid hz1
    have Kz2 := Lib.hid hz2
    clear hi hz0 hz1 hz2 hck
    go_enter Try.func5, Try.ntmps5
    go_wp2_with fail
    refine (rcheck_any _ _ _ _ _ 15 _ R (by omega)).mono ?_
    rintro e w1 ⟨rfl, rfl⟩
    rw [HCK.out]
    go_wp2_with fail
    refine (build_ok _ _ _ _ _ l 15 R (Nat.le_refl _) (by omega) HCK.out).mono ?_
    rintro e w3 ⟨gt, rfl, ht3, hb3⟩
    go_wp2_with fail
    refine (wtrNew_any _).mono ?_
    rintro e w4 ⟨gw, rfl, hw4, hb4⟩
    go_wp2_with fail
    refine (rdrNew_any _).mono ?_
    rintro e w5 ⟨gr, rfl, hr5, hb5⟩
    have hw5 := hw4.keeps hb5
    have hb35 := hb4.trans (hb5.mono hb4.size)
    go_wp2_with fail
    refine (answers6_any _).mono ?_
    rintro e w6 ⟨rfl, hb6⟩
    have hw6 := hw5.keeps hb6
    have hr6 := hr5.keeps hb6
    have hb36 := hb35.trans (hb6.mono hb35.size)
    have hgw := hw4.cell.lt
    have hgr := hr5.lo
    have hgrl := hr5.cell.lt
    have hst : BSt w3 w3.heap.size w6.heap.size gw gr none 0 0 [] none 0 0 [] none 0 0 [] w6 :=
      ⟨hw6, hr6.more hb4.size, OwnI.nil_, OwnI.nil_, by have := hb5.size; have := hb6.size; omega, by have := hb6.size; omega, by omega, by simp [blkOf], by simp [blkOf], by simp [blkOf], by simp [blkOf], Nat.le_refl _, hb36⟩
    have hB0 : w3.heap.size ≤ w6.heap.size := hb36.size
    have HIN := Lib.hid hin
    clear hw4 hb4 hr5 hb5 hw5 hb35 hb6 hw6 hr6 hb36 hgw hgr hgrl hin
    go_wp2_with fail
    go_loopw [9, 10, 11] (BackRel w3 w3.heap.size w6.heap.size gw gr l ls n') (fun _ _ i _ => n' - (intOf i).toNat)
    case atStart => exact ⟨0, 0, 0, 0, 0, 0, 0, none, none, none, Nat.zero_le _, rfl, rfl, rfl, hst⟩
    case round =>
      clear hst
      obtain ⟨k, nw, cw, nx, cx, ny, cy, Aw, Ax, Ay, hk, rfl, rfl, rfl, hs⟩ := hrel
      have hbw := hb3.trans (hs.bel.mono hb3.size)
      have htt := ht3.chg (S := fun _ => False) (Chg.of_below hs.bel) (Nat.le_refl _) (fun _ _ _ => id)
      have hWl := wantT_len l ls k
      have hAl := allT_len (l := l) HIN.out (wantT_may l ls k)
      by_cases hlt : k < n'
      · have hkI : (k : Int) < (n' : Int) ∧ (0 : Int) ≤ k := by omega
        obtain ⟨ad, rfl, _, c1⟩ := (R'.below hbw).at_ hlt
        have hxw : -9223372036854775808 ≤ ix ls k ∧ ix ls k ≤ 9223372036854775807 := by
          unfold ix; rw [List.getD_eq_getElem?_getD]
          cases e : ls[k]? with
          | none => simp
          | some v => exact hwf v (List.mem_of_getElem? e)
        have hW1 : Hid (wantT l ls (k + 1) = wantT l ls k ++ if mayB l (ix ls k) then [ix ls k] else []) := rfl
        obtain ⟨x, hx⟩ : ∃ x, ix ls k = x := ⟨_, rfl⟩
        rw [hx] at c1 hxw hW1
        have HX := Lib.hid hx
        clear hx
        by_cases hm : 0 ≤ x ∧ x < (n : Int) ∧ 0 < ix l x.toNat
        · obtain ⟨hx0, hx1, hx2⟩ := hm
          obtain ⟨s, rfl⟩ := Int.eq_ofNat_of_zero_le hx0
          rw [Int.toNat_natCast] at hx2
          have hsn : s < n := by omega
          have hsl : s < l.length := by rw [← HN.out]; exact hsn
          have hNin := HIN.out s hsl
          have hW2 : Hid (wantT l ls (k + 1) = wantT l ls k ++ [(s : Int)]) := by
            show _ = _
            rw [hW1.out, if_pos]
            unfold mayB
            simp only [decide_eq_true_eq, Int.toNat_natCast]
            omega
          have hA2 : Hid (allT l (wantT l ls (k + 1)) = allT l (wantT l ls k) ++ symBits l s) := by show _ = _; rw [hW2.out, allT_app]; simp [allT]
          have hnx : nx ≤ 300 := by rw [hs.o1.1]; omega
          have hny : ny ≤ 4500 := by rw [hs.o2.1]; omega
          obtain ⟨adl, rfl, _, cl⟩ := (R.below hbw).at_ hsn
          obtain ⟨N, hN⟩ := Int.eq_ofNat_of_zero_le hNin.1
          have hN2 : (1 : Int) ≤ N ∧ (N : Int) ≤ 15 := by omega
          have hN0 : 0 < N := by omega
          have hNN := Lib.hid hN
          have hN1 := Lib.hid (show 1 ≤ ix l s by omega)
          have hN15 := Lib.hid hNin.2
          have hLlen : (allT l (wantT l ls k)).length ≤ 4000000000000 := by omega
          have hsI : (0 : Int) ≤ s ∧ (s : Int) < (n : Int) := by omega
          rw [hN] at cl
          clear hx0 hx1 hx2 hNin hN hWl hAl hxw
          go_wp2_with fail
          refine (twrite_ok _ _ _ _ _ _ _ _ _ l _ s htt hl288 hs.wtr hLlen hsl hN1.out hN15.out).mono ?_
          rintro e w8 ⟨Aw8, nw8, cw8, rfl, hw8, hg8, hf8⟩
          have hs8 := hs.wrote hB0 hw8 hg8 hf8
          have hs9 := hs8.keeps hB0 ((Below.refl _ w8).alloc (Nat.le_refl _) (.cells #[.int .i64 s] 3))
          go_wp2_with (at_builtin; go_must (refine wpList_app .i64 w6.heap.size 3 i0 8 rfl (.tmp 77) (.tmp 79) _ rfl Try.underlying22 Hi.out Hz0.out Hz1.out Hz2.out rfl hs9.o1 rfl (RdI.lit .i64 w8 [(s : Int)] 3) (by omega) (by omega) hs9.hb1 ?_)
                       intro A10 d10 w10 hown10 hg10 hat10)
          have hs10 := hs9.app1 hB0 hown10 hg10 hat10
          have hbw10 := hb3.trans (hs10.bel.mono hb3.size)
          have R10 := (R.below hbw10).more hbw10.size
          clear hown10 hg10 hat10 hs9 hs8 hw8 hg8 hf8
          go_wp2_with (first
            | (at_builtin; (refine wpList_app .u8 w6.heap.size 5 i1 1 rfl (.tmp 81) (.tmp 84) _ rfl Try.underlying23 Ki.out Kz0.out Kz1.out Kz2.out rfl hs11.o2 rfl ho11.rd (by have := hn11.out; omega) (by omega) hs11.hb1 ?_)
               intro A12 d12 w12 hown12 hg12 hat12)
            | (go_at_call 20; refine (rbits_any _ _ _ _ s N _ R10 (by omega) hsn hNN.out (by omega) (by omega)).mono ?_; rintro e w11 ⟨A11, n11, c11, rfl, ho11, hb11⟩
               have hs11 := hs10.keeps hB0 hb11
               have hn11 : Hid (n11 ≤ 15) := by show _ ≤ _; rw [ho11.1, symBits_length, hNN.out]; omega))
          have hs12 := hs11.app2 hB0 hown12 hg12 hat12
          rw [← hA2.out, ← hW2.out] at hs12
          clear hown12 hg12 hat12 hs11 ho11 hs10
          go_roundw
          case rel => exact ⟨k + 1, nw8, cw8, _, _, _, _, Aw8, _, _, hlt, by go_num, rfl, rfl, hs12⟩
          case measure => simp [intOf]; omega
        · have hm1 : mayB l x = false := by unfold mayB; rw [← HN.out]; simpa using hm
          have hW2 : Hid (wantT l ls (k + 1) = wantT l ls k) := by show _ = _; rw [hW1.out, hm1]; simp
          have hno : x < 0 ∨ (l.length : Int) ≤ x ∨ ix l x.toNat = 0 := by
            rw [← HN.out]
            by_cases a : x < 0
            · exact .inl a
            · by_cases b : (n : Int) ≤ x
              · exact .inr (.inl b)
              · have := HIN.out x.toNat (by rw [← HN.out]; omega)
                refine .inr (.inr ?_)
                have : ¬ 0 < ix l x.toNat := fun h => hm ⟨by omega, by omega, h⟩
                omega
          have HNO := Lib.hid hno
          have hcs : x < 0 ∨ (0 ≤ x ∧ (n : Int) ≤ x) ∨ (0 ≤ x ∧ x < (n : Int) ∧ ix l x.toNat = 0) := by have := HN.out; omega
          clear hm hno hm1
          rcases hcs with hx0 | ⟨hx0, hx1⟩ | ⟨hx0, hx1, hx2⟩
          · go_wp2_with fail
            refine (twrite_not _ _ _ _ _ _ x htt hl288 HNO.out).mono ?_
            rintro e w8 ⟨rfl, rfl⟩
            go_wp2_with fail
            go_roundw
            case rel => exact ⟨k + 1, nw, cw, nx, cx, ny, cy, Aw, Ax, Ay, hlt, by go_num, rfl, rfl, by rw [hW2.out]; exact hs⟩
            case measure => simp [intOf]; omega
          · go_wp2_with fail
            refine (twrite_not _ _ _ _ _ _ x htt hl288 HNO.out).mono ?_
            rintro e w8 ⟨rfl, rfl⟩
            go_wp2_with fail
            go_roundw
            case rel => exact ⟨k + 1, nw, cw, nx, cx, ny, cy, Aw, Ax, Ay, hlt, by go_num, rfl, rfl, by rw [hW2.out]; exact hs⟩
            case measure => simp [intOf]; omega
          · obtain ⟨s, rfl⟩ := Int.eq_ofNat_of_zero_le hx0
            have hsn : s < n := by omega
            obtain ⟨adl, rfl, _, cl⟩ := (R.below hbw).at_ hsn
            have hx3 : ix l s = 0 := by simpa using hx2
            rw [hx3] at cl
            clear hx2 hx3
            go_wp2_with fail
            refine (twrite_not _ _ _ _ _ _ _ htt hl288 HNO.out).mono ?_
            rintro e w8 ⟨rfl, rfl⟩
            go_wp2_with fail
            go_roundw
            case rel => exact ⟨k + 1, nw, cw, nx, cx, ny, cy, Aw, Ax, Ay, hlt, by go_num, rfl, rfl, by rw [hW2.out]; exact hs⟩
            case measure => simp [intOf]; omega
      · obtain rfl : n' = k := by omega
        obtain ⟨W, hW⟩ : ∃ W, wantT l ls n' = W := ⟨_, rfl⟩
        have hmay : ∀ x ∈ W, mayB l x = true := by rw [← hW]; exact wantT_may l ls n'
        rw [hW] at hs hWl hAl
        obtain ⟨L, hL⟩ : ∃ L, allT l W = L := ⟨_, rfl⟩
        rw [hL] at hs hAl
        have hLb : L.length ≤ 4500 := by omega
        have hny : Hid ((L.length : Int) = (ny : Int)) := by show _ = _; rw [← hs.o2.1]
        have hnx : nx ≤ 300 := by rw [hs.o1.1]; omega
        have hLbit : Bit L := by rw [← hL]; exact Bit.allT l W
        have hby : ∀ x ∈ byt (evn L), 0 ≤ x ∧ x < 256 := byt_bd hLbit.evn
        have hbl : (byt (evn L)).length ≤ 600 := by rw [byt_length, evn_length]; omega
        have HL := Lib.hid hL
        clear hW hL hWl hAl htt
        go_wp2_with fail
        refine (wtrBits_any _ _ _ _ _ _ _ hs.wtr (by omega)).mono ?_
        rintro e w8 ⟨rfl, q8, rfl⟩
        rw [hny.out]
        have hs8 := hs.keeps hB0 (below_drewN (Below.refl _ wr) q8)
        go_wp2_with fail
        refine (wtrAlign_any _ _ _ _ _ _ _ hs8.wtr (by omega)).mono ?_
        rintro e w9 ⟨Aw9, nw9, cw9, rfl, hw9, hg9, hf9⟩
        have hs9 := hs8.wrote hB0 hw9 hg9 hf9
        clear hs hs8 hw9 hg9 hf9
        go_wp2_with fail
        refine (wtrTake_any _ _ _ _ _ _ _ hs9.wtr).mono ?_
        rintro e w10 ⟨rfl, hob10, hw10, hg10⟩
        have hs10 := hs9.wrote hB0 hw10 (hg10.more fun q hq => .inl hq) (fun q hq => by simp [blkOf] at hq)
        have hrb10 := hob10.rd
        clear hs9 hw10 hg10
        go_wp2_with fail
        refine (even_any _ _ _ _ _ L hs10.o2.rd (Nat.le_refl _) (by have := hs10.o2.1; omega)).mono ?_
        rintro e w11 ⟨A11, n11, c11, rfl, ho11, hb11⟩
        have hs11 := hs10.keeps hB0 hb11
        have hrb11 := (hrb10.below hb11).more hb11.size
        have hnw9 : (nw9 : Int) ≤ 600 := by have := hrb10.1; omega
        clear hs10 hrb10 hob10
        go_wp2_with fail
        refine (bytes_any _ _ _ _ _ _ ho11.rd ho11.2.capLe (Nat.le_refl _) hLbit.evn (by have := ho11.1; rw [evn_length] at this; omega)).mono ?_
        rintro e w12 ⟨A12, n12, c12, rfl, ho12, hb12⟩
        have hs12 := hs11.keeps hB0 hb12
        have hrb12 := (hrb11.below hb12).more hb12.size
        clear hs11 hrb11 ho11
        go_wp2_with fail
        refine (same_any _ _ _ _ _ _ _ _ _ _ hrb12 ho12.rd (by omega) rfl).mono ?_
        rintro e w13 ⟨rfl, q13, rfl⟩
        have hs13 := hs12.keeps hB0 (below_drewN (Below.refl _ w12) q13)
        have hrb13 : RdI .u8 (w12.drewN q13) (w12.drewN q13).heap.size _ _ _ := hrb12
        go_wp2_with fail
        refine (rdrFeed_any _ _ _ _ _ _ _ _ _ _ _ _ _ hs13.rdr hrb13 (Nat.le_refl _) hby (by simp; omega)).mono ?_
        rintro e w14 ⟨A14, n14, c14, rfl, hr14, hg14, hA14⟩
        rw [show ([] : List Int).drop (0 / 8) ++ byt (evn L) = byt (evn L) from rfl, show 0 % 8 = 0 from rfl] at hr14
        have ho14 := hg14.ownI hs13.o1 fun q hq e => by have := (hs13.o1.2.lt hq).1; have := hs13.grb; omega
        have hbB14 := hs13.bel.trans (hg14.below (fun q hq => hq ▸ hs13.rdr.lo) (Nat.le_trans hB0 hs13.hb1))
        have hst : BackRel2 w3 w3.heap.size w6.heap.size cx gr l W (List.replicate ((8 - L.length % 8) % 8) 0) (byt (evn L)) A14 n14 c14 Ax nx (.int .i64 0) w14 := ⟨0, 0, Nat.zero_le _, rfl, hr14, rfl, ho14, hbB14⟩
        have hnxW : nx = W.length := hs13.o1.1
        have hgrB : w3.heap.size ≤ gr := hs13.rdr.lo
        have hgr6 : gr < w6.heap.size := hs13.grb
        clear hs13 hs12 hrb12 hrb13 ho12 hr14 hg14 hA14 ho14 hbB14 hb11 hb12
        have HNX := Lib.hid hnxW
        have hrbE : Hid (∀ a, rb (byt (evn L)) a = (allT l W ++ List.replicate ((8 - L.length % 8) % 8) 0).drop a) := fun a => by
          unfold rb
          have h1 := bts_byt hLbit.evn
          rw [rest_none (evn_even L), List.append_nil] at h1
          rw [h1, HL.out]; rfl
        clear hnxW
        go_wp2_with fail
        go_loopw [15] (BackRel2 w3 w3.heap.size w6.heap.size cx gr l W (List.replicate ((8 - L.length % 8) % 8) 0) (byt (evn L)) A14 n14 c14 Ax nx) (fun i _ => nx - (intOf i).toNat)
        case atStart => exact hst
        case round =>
          clear hst hbw
          obtain ⟨k, a, hk, rfl, hr, ha, hoW, hb⟩ := hrel
          have hbw := hb3.trans (hb.mono hb3.size)
          by_cases hlt : k < nx
          · have hkI : (k : Int) < (nx : Int) ∧ (0 : Int) ≤ k := by omega
            have htt := ht3.chg (S := fun _ => False) (Chg.of_below hb) (Nat.le_refl _) (fun _ _ _ => id)
            obtain ⟨N, hN, hN2⟩ := allT_next (l := l) (W := W) (z := List.replicate ((8 - L.length % 8) % 8) 0) (k := k) (by rw [← HNX.out]; exact hlt) hl288 HIN.out hS hmay
            rw [← ha, ← hrbE.out a] at hN
            rw [← ha] at hN2
            have HN3 := Lib.hid hN
            have HN4 := Lib.hid hN2
            clear hN hN2
            go_wp2_with fail
            refine (next_any _ _ _ _ _ _ _ _ _ _ _ _ htt hl288 hr (by omega) hb.size (fun q h1 h2 => by omega)).mono ?_
            rintro e w15 ⟨rfl, hr15, hg15⟩
            rw [HN3.out] at hr15 ⊢
            dsimp only at hr15 ⊢
            have hbB15 := hb.trans (hg15.below (fun q hq => hq ▸ hgrB) hb.size)
            have hoW15 := hg15.ownI hoW fun q hq e => by have := (hoW.2.lt hq).1; omega
            have hrW15 := hoW15.rd
            obtain ⟨ad, rfl, _, c1⟩ := hrW15.at_ hlt
            obtain ⟨v, hv⟩ : ∃ v, ix W k = v := ⟨_, rfl⟩
            rw [hv] at c1 ⊢
            clear hv
            go_wp2_with fail
            go_roundw
            case rel => exact ⟨k + 1, a + N, by have := HNX.out; omega, by go_num, hr15, HN4.out, hoW15, hbB15⟩
            case measure => simp [intOf]; omega
          · obtain rfl : k = nx := by have := HNX.out; omega
            go_wp2_with fail
            go_ret
            exact ⟨rfl, hbw⟩
  · have h0 : (checkOf l 15 == 0) = false := by simpa using hck
    obtain ⟨E, hE⟩ : ∃ E, checkOf l 15 = E := ⟨_, rfl⟩
    have HE := Lib.hid hE
    rw [hE] at h0
    clear hE hck
    go_enter Try.func5, Try.ntmps5
    go_wp2_with fail
    refine (rcheck_any _ _ _ _ _ 15 _ R (by omega)).mono ?_
    rintro e w1 ⟨rfl, rfl⟩
    rw [HE.out]
    go_wp2_with fail
    refine (answers6_any _).mono ?_
    rintro e w4 ⟨rfl, hb4⟩
    go_wp2
    go_ret
    exact ⟨rfl, hb4⟩
end Go.Proofs.Ytjkmejcglhnnaaa
