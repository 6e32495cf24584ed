/-
  The walk of the statement BitsBack.
-/
import Derived.Test.YtefignampkdclaaProg
import Derived.Test.YtefignampkdclaaRev
import Derived.Test.YtefignampkdclaaRdrB
import Derived.Test.YtefignampkdclaaRefB
import Derived.Test.YtefignampkdclaaLawBackP
import Derived.BigFrame
namespace Go.Proofs.Ytefignampkdclaa
open Go.RowKit
set_option linter.unusedVariables false

def PutLoop (w0 : World) (gw gr : Nat) (l s : List Int) (n : Nat) (i _z : Value) (wr : World) : Prop :=
  ∃ (k m c : Nat) (A : Option Addr), k ≤ n ∧ i = .int .i64 k ∧ Wtr wr w0.heap.size gw A m c (putAll l s k) ∧ Below w0.heap.size w0 wr ∧ Rdr wr w0.heap.size gr none 0 0 [] 0 ∧ ¬ foot A gw gr
theorem PutLoop.next {w0 wr w5 : World} {gw gr m c n' c' : Nat} {A A' : Option Addr} {L L' : List Int} (hwW : Wtr wr w0.heap.size gw A m c L) (hb : Below w0.heap.size w0 wr) (hr : Rdr wr w0.heap.size gr none 0 0 [] 0) (hf : ¬ foot A gw gr)
    (hw5 : Wtr w5 w0.heap.size gw A' n' c' L') (hg5 : Chg wr w5 (foot A gw)) (hf5 : ∀ k, blkOf A' = some k → blkOf A = some k ∨ wr.heap.size ≤ k) :
    Wtr w5 w0.heap.size gw A' n' c' L' ∧ Below w0.heap.size w0 w5 ∧ Rdr w5 w0.heap.size gr none 0 0 [] 0 ∧ ¬ foot A' gw gr := by
  refine ⟨hw5, hb.trans (hg5.below (fun q hq => (hwW.foot_lo hq).1) hb.size), hr.chg hg5 fun k hk h => ?_, fun h => ?_⟩
  · rcases hk with rfl | hk
    · exact hf h
    · cases hk
  · rcases h with h | h
    · exact hf (.inl h)
    · rcases hf5 gr h with h2 | h2
      · exact hf (.inr h2)
      · have := hr.cell.lt; omega
/-- what the second loop keeps: j bytes are fed, the numbers before k are got -/
def GetSt (w0 : World) (gr : Nat) (Ab : Option Addr) (nb cb : Nat) (Bt : List Int) (j P : Nat) (wr : World) : Prop :=
  ∃ (A : Option Addr) (m c a : Nat) (B : List Int), j ≤ nb ∧ P ≤ 8 * j ∧ Rdr wr w0.heap.size gr A m c B a ∧ rb B a = (bts (Bt.take j)).drop P ∧ B.length ≤ j ∧ OwnI .u8 wr w0.heap.size 5 Ab nb cb Bt ∧ blkOf Ab ≠ some gr ∧ Below w0.heap.size w0 wr
def GetOut (w0 : World) (gr : Nat) (Ab : Option Addr) (nb cb : Nat) (Bt l s : List Int) (n : Nat) (at_ i _z _v _o _e _t : Value) (wr : World) : Prop :=
  ∃ k j : Nat, k ≤ n ∧ i = .int .i64 k ∧ at_ = .int .i64 j ∧ GetSt w0 gr Ab nb cb Bt j (putAll l s k).length wr
def GetEnd (w0 : World) (gr : Nat) (Ab : Option Addr) (nb cb : Nat) (Bt : List Int) (P Z j : Nat) (v : Int) (b : Bool) (wr : World) : Prop :=
  (b = true ∧ v = numI (((bts Bt).drop P).take Z) ∧ GetSt w0 gr Ab nb cb Bt j (P + Z) wr) ∨ (b = false ∧ 8 * j - P < Z ∧ GetSt w0 gr Ab nb cb Bt j P wr)
def GetIn (w0 : World) (gr : Nat) (Ab : Option Addr) (nb cb : Nat) (Bt : List Int) (P Z : Nat) (at_ v ok _e : Value) (wr : World) : Prop :=
  ∃ (j : Nat) (x : Int) (b : Bool), at_ = .int .i64 j ∧ v = .int .u32 x ∧ ok = .bool b ∧ GetEnd w0 gr Ab nb cb Bt P Z j x b wr

theorem take_pre {l : List Int} {j P Z : Nat} (h : P + Z ≤ 8 * j) : ((bts (l.take j)).drop P).take Z = ((bts l).drop P).take Z := by
  have e : bts l = bts (l.take j) ++ bts (l.drop j) := by rw [← bts_append, List.take_append_drop]
  by_cases hj : j ≤ l.length
  · have hl : (bts (l.take j)).length = 8 * j := by rw [bts_length, List.length_take, Nat.min_eq_left hj]
    rw [e, List.drop_append_of_le_length (by omega), List.take_append_of_le_length (by simp; omega)]
  · rw [List.take_of_length_le (l := l) (i := j) (by omega)]
def GetPost (w0 : World) (gr : Nat) (Ab : Option Addr) (nb cb : Nat) (Bt : List Int) (P Z j : Nat) (e : Ending) (wr : World) : Prop :=
  ∃ (x : Int) (b : Bool), e = .returned (.tuple #[.int .u32 x, .bool b]) ∧ GetEnd w0 gr Ab nb cb Bt P Z j x b wr
theorem getSt {w0 wr : World} {gr nb cb j P : Nat} {Ab : Option Addr} {Bt : List Int} (h : GetSt w0 gr Ab nb cb Bt j P wr) (Z : Nat) (hZ : Z ≤ 32) (hnb : nb ≤ 2000) :
    Calls Try.prog 21 #[.pointer (some ⟨gr, 0, none⟩), .int .i64 Z] wr (GetPost w0 gr Ab nb cb Bt P Z j) := by
  obtain ⟨A, m, c, a, B, hj, hP, hr, hrb, hBl, ho, hap, hb⟩ := h
  have hlo := hr.lo
  have hlen : (rb B a).length = 8 * j - P := by rw [hrb, List.length_drop, bts_length, List.length_take, ← ho.1, Nat.min_eq_left hj]
  by_cases hz : Z ≤ 8 * j - P
  · refine (get_ok _ _ _ _ _ _ _ _ hr (by omega) Z (by omega) (by omega)).mono ?_
    rintro e w' ⟨rfl, hr', hg⟩
    refine ⟨_, _, rfl, .inl ⟨rfl, ?_, A, m, c, a + Z, B, hj, by omega, hr', by rw [← rb_drop, hrb, List.drop_drop], hBl, hg.ownI ho fun q hq h => hap (h ▸ hq), hap, hb.trans (hg.below (fun q hq => hq ▸ hlo) hb.size)⟩⟩
    rw [hrb, take_pre (by omega)]
  · refine (get_not _ _ _ _ _ _ _ _ hr (by omega) Z (by omega)).mono ?_
    rintro e w' ⟨rfl, q, rfl⟩
    exact ⟨_, _, rfl, .inr ⟨rfl, by omega, A, m, c, a, B, hj, hP, hr.drewN q, hrb, hBl, ho.drewN q, hap, below_drewN hb q⟩⟩
theorem feedSt {w0 wr : World} {gr nb cb j P : Nat} {Ab : Option Addr} {Bt : List Int} (h : GetSt w0 gr Ab nb cb Bt j P wr) (J D : Nat) (hJ : j + D = J) (hJn : J ≤ nb) (hBt : ∀ x ∈ Bt, 0 ≤ x ∧ x < 256) (hnb : nb ≤ 2000) :
    Calls Try.prog 22 #[.pointer (some ⟨gr, 0, none⟩), .slice (cutA Ab cb j) D (cb - j)] wr fun e w' => e = .returned (.tuple #[]) ∧ GetSt w0 gr Ab nb cb Bt J P w' := by
  subst hJ
  obtain ⟨A, m, c, a, B, hj, hP, hr, hrb, hBl, ho, hap, hb⟩ := h
  have hlo := hr.lo
  have hrd := (ho.rd.cutA hj ho.2.capLe).pre (j := D) (by omega)
  have hDl := hrd.1
  refine (rdrFeed_any _ _ _ _ _ _ _ _ _ _ _ _ _ hr hrd (Nat.le_refl _) (fun x hx => hBt x (List.mem_of_mem_drop (List.mem_of_mem_take hx))) (by rw [← hDl]; omega)).mono ?_
  rintro e w' ⟨A', n', c', rfl, hr', hg, hA'⟩
  refine ⟨rfl, A', n', c', a % 8, _, hJn, by omega, hr', ?_, ?_, hg.ownI ho fun q hq h => hap (h ▸ hq), hap, hb.trans (hg.below (fun q hq => hq ▸ hlo) hb.size)⟩
  · have hl : (bts (Bt.take j)).length = 8 * j := by rw [bts_length, List.length_take, ← ho.1, Nat.min_eq_left hj]
    rw [rb_feed _ _ hr.le, hrb, List.take_add, bts_append, List.drop_append_of_le_length (by omega)]
  · rw [List.length_append, List.length_drop, ← hDl]; omega

set_option maxRecDepth 100000 in
set_option maxHeartbeats 8000000 in
theorem bitsBack_law (A0 : Option Addr) (n0 c0 : Nat) (l : List Int) (A1 : Option Addr) (n1 c1 : Nat) (s : List Int) (part : Int) (w : World)
    (T0 : RdI .u32 w w.heap.size A0 n0 l ∧ n0 ≤ maxLen ∧ ∀ n ∈ l, (Lit.int .u32 n).wf = true) (T1 : RdI .u8 w w.heap.size A1 n1 s ∧ n1 ≤ maxLen ∧ ∀ n ∈ s, (Lit.int .u8 n).wf = true) (hp : (Lit.int .u8 part).wf = true) :
    Calls Try.prog 4 #[.slice A0 n0 c0, .slice A1 n1 c1, .int .u8 part] w fun e w' => e = .returned (.bool true) ∧ Below w.heap.size w w' := by
  obtain ⟨R0, m0, f0⟩ := T0
  obtain ⟨R1, m1, f1⟩ := T1
  have hpb := bounds_u8 hp
  have hn0 : (n0 : Int) ≤ 9223372036854775807 := by unfold maxLen at m0; omega
  have hn1 : (n1 : Int) ≤ 9223372036854775807 := by unfold maxLen at m1; omega
  clear m0 m1 hp
  obtain ⟨p, rfl⟩ := Int.eq_ofNat_of_zero_le hpb.1
  obtain ⟨n9, hn9⟩ : ∃ n9 : Nat, p % 9 = n9 := ⟨_, rfl⟩
  have hn9I : (p : Int) % 9 = (n9 : Int) := by omega
  have hn9b : (n9 : Int) ≤ 8 ∧ (0 : Int) ≤ n9 := by omega
  clear hn9
  go_enter Try.func4, Try.ntmps4
  go_wp2_with fail
  refine (wtrNew_any _).mono ?_
  rintro e w1 ⟨gw, rfl, hw1, hb1⟩
  go_wp2_with fail
  refine (rdrNew_any _).mono ?_
  rintro e w2 ⟨gr, rfl, hr2, hb2⟩
  have hw2 := hw1.keeps hb2
  go_wp2_with fail
  refine (answers1_any _).mono ?_
  rintro e w3 ⟨rfl, hb3⟩
  have hw3 := hw2.keeps hb3
  have hr3 := hr2.keeps hb3
  have hbw := (hb1.trans (hb2.mono hb1.size)).trans (hb3.mono (Nat.le_trans hb1.size hb2.size))
  have hgwr : gw < gr := by have := hw1.cell.lt; have := hr2.lo; omega
  by_cases h300 : 300 < (n0 : Int)
  · go_wp2_with fail
    refine (answers1_any _).mono ?_
    rintro e w4 ⟨rfl, hb4⟩
    go_wp2
    go_ret
    exact ⟨rfl, hbw.trans (hb4.mono hbw.size)⟩
  · have h300f : (300 < (n0 : Int)) = False := eq_false h300
    go_wp2_with fail
    clear hn9I
    go_loopw [12, 13] (PutLoop w gw gr l s n0) (fun i _ _ => n0 - (intOf i).toNat)
    case atStart => exact ⟨0, 0, 0, none, Nat.zero_le _, rfl, hw3, hbw, hr3.more hb1.size, fun h => by
      rcases h with h | h
      · omega
      · cases h⟩
    case round =>
      clear hbw
      obtain ⟨k, m, c, A, hk, rfl, hwW, hbW, hrW, hfW⟩ := hrel
      have hn300 : (n0 : Int) ≤ 300 := by omega
      by_cases hlt : k < n0
      · have hkI : (0 : Int) ≤ k ∧ (k : Int) < (n0 : Int) := by omega
        obtain ⟨ad, rfl, hbl, e1⟩ := R0.at_ hlt
        have e2 := (hbW.cell (p := ad.add k) (by rw [addr_block]; exact hbl)).trans e1
        have hVb := bounds_u32 (ix_wf f0 (by decide) k)
        have hL := putAll_le l s k
        have hlen : (putAll l s k).length ≤ 4000000000000 := by omega
        clear e1 hL
        by_cases hs : k < n1
        · have hsI : (k : Int) < (n1 : Int) := by omega
          obtain ⟨ad1, rfl, hbl1, d1⟩ := R1.at_ hs
          have d2 := (hbW.cell (p := ad1.add k) (by rw [addr_block]; exact hbl1)).trans d1
          have hxb := bounds_u8 (ix_wf f1 (by decide) k)
          obtain ⟨x, hx⟩ : ∃ x, ix s k = x := ⟨_, rfl⟩
          obtain ⟨V, hV⟩ : ∃ V, ix l k = V := ⟨_, rfl⟩
          obtain ⟨Z, hZ⟩ : ∃ Z, szN s k = Z := ⟨_, rfl⟩
          have hZI : x % 33 = (Z : Int) := by rw [← hZ, ← hx]; unfold szN; rw [if_pos (by rw [← R1.1]; exact hs)]; omega
          have hZb : (Z : Int) ≤ 32 := by omega
          have HS : Hid (putAll l s (k + 1) = putAll l s k ++ ofN V Z) := by show _ = _; rw [putAll, hV, hZ]
          rw [hx] at d2 hxb
          rw [hV] at e2 hVb
          clear hx hV hZ d1
          go_wp2_with fail
          refine (put_ok _ _ _ _ _ _ _ hwW V Z hVb hZb hlen).mono ?_
          rintro e w5 ⟨A', n', c', rfl, hw5, hg5, hf5⟩
          go_wp2
          go_roundw
          case rel => exact ⟨k + 1, n', c', A', hlt, by go_num, by rw [HS.out]; exact PutLoop.next hwW hbW hrW hfW hw5 hg5 hf5⟩
          case measure => simp [intOf]; omega
        · have hsI : ¬ (k : Int) < (n1 : Int) := by omega
          obtain ⟨V, hV⟩ : ∃ V, ix l k = V := ⟨_, rfl⟩
          have HS : Hid (putAll l s (k + 1) = putAll l s k ++ ofN V 0) := by show _ = _; rw [putAll, hV]; unfold szN; rw [if_neg (by rw [← R1.1]; exact hs)]
          rw [hV] at e2 hVb
          clear hV
          go_wp2_with fail
          refine (put_ok _ _ _ _ _ _ _ hwW V 0 hVb (by omega) hlen).mono ?_
          rintro e w5 ⟨A', n', c', rfl, hw5, hg5, hf5⟩
          go_wp2
          go_roundw
          case rel => exact ⟨k + 1, n', c', A', hlt, by go_num, by rw [HS.out]; exact PutLoop.next hwW hbW hrW hfW hw5 hg5 hf5⟩
          case measure => simp [intOf]; omega
      · obtain rfl : k = n0 := by omega
        have hL := putAll_le l s k
        have hlen : (putAll l s k).length ≤ 4000000000000 := by omega
        go_wp2_with fail
        refine (wtrAlign_any _ _ _ _ _ _ _ hwW hlen).mono ?_
        rintro e w5 ⟨A5, n5, c5, rfl, hw5, hg5, hf5⟩
        obtain ⟨-, hb5, hr5, hf5b⟩ := PutLoop.next hwW hbW hrW hfW hw5 hg5 hf5
        go_wp2_with fail
        refine (wtrTake_any _ _ _ _ _ _ _ hw5).mono ?_
        rintro e w6 ⟨rfl, ho6, hw6, hg6⟩
        have hb6 := hb5.trans (hg6.below (fun q hq => by rw [hq]; exact hw5.lo) hb5.size)
        have hr6 := hr5.chg hg6 (fun q hq h => by
          rcases hq with hq | hq
          · exact hf5b (.inl (hq ▸ h))
          · cases hq)
        have hap6 : blkOf A5 ≠ some gr := fun h => hf5b (.inr h)
        have HEV : Hid (bts (byt (evn (putAll l s k))) = evn (putAll l s k)) := by
          show _ = _
          have := bts_byt (putAll_bit l s k).evn
          rwa [rest_none (evn_even _), List.append_nil] at this
        have hBt := byt_bd (putAll_bit l s k).evn
        have hPl : Hid ((putAll l s k).length ≤ 8 * n5) := by show _ ≤ _; have := hw5.n_eq; rw [evn_length] at this; omega
        have hn5 : (n5 : Int) ≤ 1300 ∧ (0 : Int) ≤ n5 := by have := hw5.n_eq; rw [evn_length] at this; omega
        have HPUT : Hid (∀ j, j < k → (((bts (byt (evn (putAll l s k)))).drop (putAll l s j).length).take (szN s j) = ofN (ix l j) (szN s j)) ∧ (putAll l s j).length + szN s j ≤ (putAll l s k).length) := fun j hj => ⟨by rw [HEV.out]; exact putAll_at l s hj _, putAll_end l s hj⟩
        obtain ⟨Bt, hBtn⟩ : ∃ Bt, byt (evn (putAll l s k)) = Bt := ⟨_, rfl⟩
        rw [hBtn] at ho6 hBt HPUT
        have hcap6 := ho6.2.capLe
        clear HEV hBtn hw6 hr5 hw5 hg5 hg6 hf5 hf5b hwW hrW hfW hL hlen hw1 hw2 hw3 hr2 hr3
        go_wp2_with fail
        go_loopw [10, 14, 15, 16, 17, 18, 19] (GetOut w gr A5 n5 c5 Bt l s k) (fun _ i _ _ _ _ _ _ => k - (intOf i).toNat)
        case atStart => exact ⟨0, 0, Nat.zero_le _, rfl, rfl, none, 0, 0, 0, [], Nat.zero_le _, Nat.le_refl _, hr6, rfl, Nat.le_refl _, ho6, hap6, hb6⟩
        case round =>
          clear hr6 ho6 hb6
          obtain ⟨i, j, hi, rfl, rfl, hst⟩ := hrel
          by_cases hlt : i < k
          · have hiI : (0 : Int) ≤ i ∧ (i : Int) < (k : Int) := by omega
            obtain ⟨hp1, hp2⟩ := HPUT.out i hlt
            obtain ⟨P, hP⟩ : ∃ P, (putAll l s i).length = P := ⟨_, rfl⟩
            obtain ⟨Z, hZ⟩ : ∃ Z, szN s i = Z := ⟨_, rfl⟩
            obtain ⟨V, hV⟩ : ∃ V, ix l i = V := ⟨_, rfl⟩
            have hVb := bounds_u32 (ix_wf f0 (by decide) i)
            have HNX : Hid ((putAll l s (i + 1)).length = P + Z) := by show _ = _; rw [putAll, List.length_append, ofN_length, hP, hZ]
            have hZ32 := szN_le s i
            rw [hP, hZ, hV] at hp1
            rw [hP, hZ] at hp2
            rw [hP] at hst
            rw [hV] at hVb
            rw [hZ] at hZ32
            have hX := congrArg numI hp1
            rw [numI_ofN] at hX
            obtain ⟨X, hXe⟩ : ∃ X, V % 2 ^ Z = X := ⟨_, rfl⟩
            have hp0 := two_pos Z
            have hp32 := pow_mono2 hZ32
            have h32 : (2 : Int) ^ 32 = 4294967296 := rfl
            have e1 : IntKind.u64.wrap (2 ^ Z) = 2 ^ Z := by rw [IntKind.wrap_u64]; exact Int.emod_eq_of_lt (by omega) (by omega)
            have e2 : V.tmod (2 ^ Z) = X := by rw [Int.tmod_eq_emod_of_nonneg hVb.1, hXe]
            have hX0 := Int.emod_nonneg V (b := 2 ^ Z) (by omega)
            have hX1 := Int.emod_lt_of_pos V hp0
            rw [hXe] at hX hX0 hX1
            have hXb : 0 ≤ X ∧ X < 4294967296 := by omega
            have hp0' : ¬ (2 : Int) ^ Z = 0 := by omega
            have HX := Lib.hid hX
            have hXz : Z = 0 → X = 0 := fun h => by rw [h] at hX1; simp at hX1; omega
            have hZI : i < n1 → ix s i % 33 = (Z : Int) := fun h => by rw [← hZ]; unfold szN; rw [if_pos (by rw [← R1.1]; exact h)]; omega
            have hZ0 : ¬ i < n1 → Z = 0 := fun h => by rw [← hZ]; unfold szN; rw [if_neg (by rw [← R1.1]; exact h)]
            have HP2 : Hid (P + Z ≤ 8 * n5) := by have := hPl.out; show _ ≤ _; omega
            clear hp1 hX hP hXe hp32 h32 hX0 hX1 hp2
            obtain ⟨ad, rfl, hbl, e1c⟩ := R0.at_ hlt
            rw [hV] at e1c
            obtain ⟨i0, hbi, _, hbs, _⟩ := info_parts rbyte_info
            have hbz0 : Below w.heap.size w wr := by
              obtain ⟨_, _, _, _, _, _, _, _, _, _, _, _, hbz⟩ := hst
              exact hbz
            by_cases hs : i < n1
            · have hsI : (i : Int) < (n1 : Int) := by omega
              have hzi := hZI hs
              obtain ⟨ad1, rfl, hbl1, d1⟩ := R1.at_ hs
              have d2 := (hbz0.cell (p := ad1.add i) (by rw [addr_block]; exact hbl1)).trans d1
              have hxb := bounds_u8 (ix_wf f1 (by decide) i)
              obtain ⟨x, hx⟩ : ∃ x, ix s i = x := ⟨_, rfl⟩
              rw [hx] at hzi d2 hxb
              have hcl : True := trivial
              clear hx d1 hZI hZ0 hZ hV hbz0
              go_wp2_with fail
              refine (getSt hst Z hZ32 (by omega)).mono ?_
              rintro e w7 ⟨v7, b7, rfl, h7⟩
              go_wp2_with fail
              go_loopw [10, 16, 17, 18] (GetIn w gr A5 n5 c5 Bt P Z) (fun at_ _ _ _ _ => n5 - (intOf at_).toNat)
              case atStart => exact ⟨j, v7, b7, rfl, rfl, rfl, h7⟩
              case round =>
                clear h7 hst hcl
                obtain ⟨j, v8, b8, rfl, rfl, rfl, h8⟩ := hrel
                rcases h8 with ⟨rfl, rfl, hst⟩ | ⟨rfl, hsm, hst⟩
                · rw [HX.out]
                  have hbz : Below w.heap.size w wr := by
                    obtain ⟨_, _, _, _, _, _, _, _, _, _, _, _, hbz⟩ := hst
                    exact hbz
                  have d2 := (hbz.cell (p := ad.add i) (by rw [addr_block]; exact hbl)).trans e1c
                  have hjI : (0 : Int) ≤ j := by omega
                  go_wp2_with fail
                  go_roundw
                  case rel => exact ⟨i + 1, j, hlt, by go_num, rfl, by rw [HNX.out]; exact hst⟩
                  case measure => simp [intOf]; omega
                · have hjn : j < n5 := by have := HP2.out; omega
                  obtain ⟨J, hJ⟩ : ∃ J, min (j + (n9 + 1)) n5 = J := ⟨_, rfl⟩
                  obtain ⟨D, hD⟩ : ∃ D, J - j = D := ⟨_, rfl⟩
                  have hJD : j + D = J := by omega
                  have hJn : J ≤ n5 := by omega
                  have hjI : (0 : Int) ≤ j ∧ (j : Int) < (n5 : Int) ∧ (j : Int) < (J : Int) ∧ (0 : Int) ≤ J := by omega
                  have hsl := run_slice_mid (P := Try.prog) 26 5 Try.underlying26 hbi hbs A5 n5 c5 (a := j) (b := J) (by omega) (by omega)
                  rw [hD] at hsl
                  have HSL := Lib.hid hsl
                  have HJD := Lib.hid hJD
                  clear hsl hJD hD
                  by_cases hover : (n5 : Int) < (j : Int) + ((n9 : Int) + 1)
                  · obtain rfl : n5 = J := by omega
                    clear hJ
                    have hsl := HSL.out
                    go_wp2_with fail
                    refine (feedSt hst n5 D HJD.out hJn hBt (by omega)).mono ?_
                    rintro e w9 ⟨rfl, h9⟩
                    go_wp2_with fail
                    refine (getSt h9 Z hZ32 (by omega)).mono ?_
                    rintro e w10 ⟨v10, b10, rfl, h10⟩
                    go_wp2_with fail
                    go_roundw
                    case rel => exact ⟨n5, v10, b10, rfl, rfl, rfl, h10⟩
                    case measure => simp [intOf]; omega
                  · have hJ2 : (j : Int) + ((n9 : Int) + 1) = (J : Int) := by omega
                    clear hJ
                    have hsl := HSL.out
                    go_wp2_with fail
                    refine (feedSt hst J D HJD.out hJn hBt (by omega)).mono ?_
                    rintro e w9 ⟨rfl, h9⟩
                    go_wp2_with fail
                    refine (getSt h9 Z hZ32 (by omega)).mono ?_
                    rintro e w10 ⟨v10, b10, rfl, h10⟩
                    go_wp2_with fail
                    go_roundw
                    case rel => exact ⟨J, v10, b10, rfl, rfl, rfl, h10⟩
                    case measure => simp [intOf]; omega
            · have hsI : ¬ (i : Int) < (n1 : Int) := by omega
              have hz0 := hZ0 hs
              have hxz := hXz hz0
              have hcl : True := trivial
              clear hZI hZ0 hZ hV hbz0 hXz
              subst hz0
              subst hxz
              simp only [Int.pow_zero] at e2 e1
              go_wp2_with fail
              refine (getSt hst 0 hZ32 (by omega)).mono ?_
              rintro e w7 ⟨v7, b7, rfl, h7⟩
              go_wp2_with fail
              go_loopw [10, 16, 17, 18] (GetIn w gr A5 n5 c5 Bt P 0) (fun at_ _ _ _ _ => n5 - (intOf at_).toNat)
              case atStart => exact ⟨j, v7, b7, rfl, rfl, rfl, h7⟩
              case round =>
                clear h7 hst hcl
                obtain ⟨j, v8, b8, rfl, rfl, rfl, h8⟩ := hrel
                rcases h8 with ⟨rfl, rfl, hst⟩ | ⟨rfl, hsm, hst⟩
                · rw [HX.out]
                  have hbz : Below w.heap.size w wr := by
                    obtain ⟨_, _, _, _, _, _, _, _, _, _, _, _, hbz⟩ := hst
                    exact hbz
                  have d2 := (hbz.cell (p := ad.add i) (by rw [addr_block]; exact hbl)).trans e1c
                  have hjI : (0 : Int) ≤ j := by omega
                  go_wp2_with fail
                  go_roundw
                  case rel => exact ⟨i + 1, j, hlt, by go_num, rfl, by rw [HNX.out]; exact hst⟩
                  case measure => simp [intOf]; omega
                · omega
          · obtain rfl : i = k := by omega
            go_wp2
            go_ret
            obtain ⟨_, _, _, _, _, _, _, _, _, _, _, _, hbz⟩ := hst
            exact ⟨rfl, hbz⟩
end Go.Proofs.Ytefignampkdclaa
