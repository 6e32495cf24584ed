/-
  The walks of the reference's Sound and Expand.
-/
import Derived.Test.YtckhkkjdibcclaaProg
import Derived.Test.YtckhkkjdibcclaaTokM
namespace Go.Proofs.Ytckhkkjdibcclaa
open Go.RowKit
set_option linter.unusedVariables false

set_option maxHeartbeats 1600000 in
theorem rsound_any (L n d : Int) (w : World) : Calls Try.prog 25 #[.agg #[.int .u8 L, .int .i64 n, .int .i64 d]] w fun e w' => e = .returned (.bool (soundB L n d)) ∧ Below w.heap.size w w' := by
  have hb : ∀ o, Below w.heap.size w (w.alloc o) := fun o => (Below.refl _ _).alloc (Nat.le_refl _) o
  by_cases h0 : n = 0
  · rw [soundB_zero h0]
    by_cases hd : d = 0
    · subst h0 hd
      go_enter Try.func25, Try.ntmps25
      go_wp2
      go_ret
      exact ⟨rfl, hb _⟩
    · have hd2 : decide (d = 0) = false := by simpa using hd
      have hd3 : (d == 0) = false := by simpa using hd
      rw [hd2]
      subst h0
      go_enter Try.func25, Try.ntmps25
      go_wp2
      go_ret
      exact ⟨rfl, hb _⟩
  · rw [soundB_match h0]
    by_cases h : L = 0 ∧ 3 ≤ n ∧ n ≤ 258 ∧ 1 ≤ d ∧ d ≤ 32768
    · have hd2 : decide (L = 0 ∧ 3 ≤ n ∧ n ≤ 258 ∧ 1 ≤ d ∧ d ≤ 32768) = true := by simpa using h
      rw [hd2]
      obtain ⟨rfl, h1, h2, h3, h4⟩ := h
      go_enter Try.func25, Try.ntmps25
      go_wp2
      go_ret
      exact ⟨rfl, hb _⟩
    · have hd2 : decide (L = 0 ∧ 3 ≤ n ∧ n ≤ 258 ∧ 1 ≤ d ∧ d ≤ 32768) = false := by simpa using h
      rw [hd2]
      have hc : ¬ L = 0 ∨ (L = 0 ∧ ¬ 3 ≤ n) ∨ ((L = 0 ∧ 3 ≤ n) ∧ ¬ n ≤ 258) ∨ ((L = 0 ∧ 3 ≤ n ∧ n ≤ 258) ∧ ¬ 1 ≤ d) ∨ ((L = 0 ∧ 3 ≤ n ∧ n ≤ 258 ∧ 1 ≤ d) ∧ ¬ d ≤ 32768) := by omega
      clear h
      rcases hc with h | ⟨rfl, h⟩ | ⟨⟨rfl, h1⟩, h⟩ | ⟨⟨rfl, h1, h2⟩, h⟩ | ⟨⟨rfl, h1, h2, h3⟩, h⟩
      all_goals
        go_enter Try.func25, Try.ntmps25
        go_wp2
        go_ret
        exact ⟨rfl, hb _⟩


def RexpRel (w : World) (l : List Tok) (n : Nat) (o i : Value) (wr : World) : Prop :=
  ∃ (k : Nat) (out : List Int) (A : Option Addr) (m d : Nat), k ≤ n ∧ i = .int .i64 k ∧ o = .slice A m d ∧ OwnI .u8 wr w.heap.size 5 A m d out ∧ Below w.heap.size w wr ∧ expand out (l.drop k) = expand [] l ∧ out.length ≤ 16777216
def RexpIn (w : World) (out : List Int) (D N : Nat) (o j : Value) (wr : World) : Prop :=
  ∃ (k : Nat) (A : Option Addr) (m d : Nat), k ≤ N ∧ j = .int .i64 k ∧ o = .slice A m d ∧ OwnI .u8 wr w.heap.size 5 A m d (out ++ again out D k) ∧ Below w.heap.size w wr

set_option maxRecDepth 100000 in
set_option maxHeartbeats 8000000 in
theorem rexpand_any (w : World) (A : Option Addr) (n c : Nat) (l : List Tok) (hr : RdT w w.heap.size A n l) (hn : (n : Int) ≤ 1000000000000) :
    Calls Try.prog 21 #[.slice A n c] w (ExpPost w l) := by
  obtain ⟨i0, hi, hz0, hz1, hz2⟩ := info_parts tmbyte_info
  have Hi := Lib.hid hi
  have Hz0 := Lib.hid hz0
  have Hz1 := Lib.hid hz1
  have Hz2 := Lib.hid hz2
  clear hi hz0 hz1 hz2
  go_enter Try.func21, Try.ntmps21
  go_wp2_with fail
  go_loopw [4, 5] (RexpRel w l n) (fun _ i _ => n - (intOf i).toNat)
  case atStart => exact ⟨0, [], none, 0, 0, Nat.zero_le _, rfl, rfl, OwnI.nil_, Below.refl _ _, rfl, by simp⟩
  case round =>
    obtain ⟨k, out, A1, m, d, hk, rfl, rfl, ho, hb, hex, hol⟩ := hrel
    by_cases hlt : k < n
    · obtain ⟨ad, rfl, hbl, hcs⟩ := hr.2 (by omega)
      have hk0 : (0 : Int) ≤ k ∧ (k : Int) < n := by omega
      obtain ⟨a0, a1, a2⟩ := hcs k hlt
      rw [addr_next _ _ _ (by omega)] at a1 a2
      rw [RdT.drop_ hr.1 hlt, expand_cons] at hex
      obtain ⟨⟨L, N, D⟩, ht⟩ : ∃ t : Tok, tokAt l k = t := ⟨_, rfl⟩
      rw [ht] at a0 a1 a2 hex
      have HEX := Lib.hid hex
      clear ht hcs hex
      replace a0 : w.cell? (ad.add (k * 3)) = some (.int .u8 L) := a0
      replace a1 : w.cell? { block := (ad.add (k * 3)).block, off := (ad.add (k * 3)).off + 1 } = some (.int .i64 N) := a1
      replace a2 : w.cell? { block := (ad.add (k * 3)).block, off := (ad.add (k * 3)).off + 2 } = some (.int .i64 D) := a2
      have hab : (ad.add (k * 3)).block < w.heap.size := by rw [addr_block]; exact hbl
      have HA0 := Lib.hid a0
      have HA1 := Lib.hid a1
      have HA2 := Lib.hid a2
      replace a0 := (hb.cell hab (p := ad.add (k * 3))).trans a0
      replace a1 := (hb.cell hab (p := ⟨(ad.add (k * 3)).block, (ad.add (k * 3)).off + 1, none⟩)).trans a1
      replace a2 := (hb.cell hab (p := ⟨(ad.add (k * 3)).block, (ad.add (k * 3)).off + 2, none⟩)).trans a2
      have hm := ho.1
      have hmI : (m : Int) ≤ 16777216 := by omega
      have HOL := Lib.hid hol
      have HMM := Lib.hid hm
      have hHm : Hid ((out.length : Int) = (m : Int)) := by show _ = _; omega
      clear hol
      by_cases hS : soundT ⟨L, N, D⟩
      · have hs : soundB L N D = true := by rw [soundB_iff]; simpa using hS
        have hSv : (N = 0 ∧ D = 0) ∨ (¬ N = 0 ∧ L = 0 ∧ 3 ≤ N ∧ N ≤ 258 ∧ 1 ≤ D ∧ D ≤ 32768) := by
          unfold soundT at hS
          by_cases h : N = 0
          · rw [if_pos h] at hS; exact .inl ⟨h, hS⟩
          · rw [if_neg h] at hS; exact .inr ⟨h, hS⟩
        by_cases hcap : 16777216 < (m : Int) + max N 1
        · have hst : step out ⟨L, N, D⟩ = (6, []) := by unfold step; rw [if_neg (by simpa using hS), if_pos (by rw [hHm.out]; exact hcap)]
          have hfin : (6, []) = expand [] l := by rw [← HEX.out, hst]; rfl
          have HF := Lib.hid hfin
          clear hfin hst hS
          clear hm
          have hcs : (N = 0 ∧ (16777216 : Int) ≤ (m : Int)) ∨ ((((N : Int) == 0) = false ∧ 3 ≤ N ∧ N ≤ 258) ∧ 16777216 < (m : Int) + N) := by
            rcases hSv with ⟨h, _⟩ | ⟨h, _, h1, h2, _⟩
            · exact .inl ⟨h, by omega⟩
            · exact .inr ⟨⟨by simpa using h, h1, h2⟩, by omega⟩
          clear hcap hSv
          rcases hcs with ⟨rfl, hcap⟩ | ⟨h1, hcap⟩
          all_goals
            go_wp2_with fail
            refine (rsound_any L _ D _).mono ?_
            rintro e w2 ⟨rfl, hb2⟩
            rw [hs]
            have hbw2 := hb.trans (hb2.mono hb.size)
            have e1 := (hbw2.cell hab (p := ⟨(ad.add (k * 3)).block, (ad.add (k * 3)).off + 1, none⟩)).trans HA1.out
            go_wp2
            go_ret2
            exact ⟨none, 0, 0, by rw [← HF.out]; rfl, by rw [← HF.out]; exact OwnI.nil_, hbw2⟩
        · rcases hSv with ⟨rfl, rfl⟩ | ⟨h0, rfl, h1, h2, h3, h4⟩
          · have hst : step out ⟨L, 0, 0⟩ = (0, out ++ [L]) := by unfold step; rw [if_neg (by simpa using hS), if_neg (by rw [hHm.out]; exact hcap), if_pos rfl]
            have HC : Hid (m + 1 ≤ 16777216) := by show _ ≤ _; omega
            have hcap2 : ((16777216 : Int) ≤ (m : Int)) = False := eq_false (by omega)
            have hcap3 : ((16777216 : Int) < (m : Int)) = False := eq_false (by omega)
            have hnx : expand (out ++ [L]) (l.drop (k + 1)) = expand [] l := by rw [← HEX.out, hst]; rfl
            have HF := Lib.hid hnx
            clear hnx hst hS hcap hm
            go_wp2_with fail
            refine (rsound_any L _ _ _).mono ?_
            rintro e w2 ⟨rfl, hb2⟩
            rw [hs]
            have hbw2 := hb.trans (hb2.mono hb.size)
            have e0 := (hbw2.cell hab (p := ad.add (k * 3))).trans HA0.out
            have e1 := (hbw2.cell hab (p := ⟨(ad.add (k * 3)).block, (ad.add (k * 3)).off + 1, none⟩)).trans HA1.out
            have ho2 := (ho.keeps hb2).alloc (.cells #[.int .u8 L] 5)
            have hb2a := hbw2.alloc hbw2.size (.cells #[.int .u8 L] 5)
            go_wp2_with (at_builtin; (refine wpList_app .u8 w.heap.size 5 i0 1 rfl (.tmp 47) (.tmp 53) _ rfl Try.underlying36 Hi.out Hz0.out Hz1.out Hz2.out rfl ho2 rfl (RdI.lit .u8 w2 [L] 5) (by omega) (by omega) (by have := hb2a.size; exact this) ?_)
                         intro A4 d4 w4 hown4 hg4 hat4)
            go_roundw
            case rel =>
              exact ⟨k + 1, out ++ [L], A4, m + 1, d4, by omega, by go_num, rfl, hown4, hb2a.grown hg4 hb2a.size (fun q hq => (ho.2.lt hq).1), HF.out, by have := HC.out; have := HMM.out; simp; omega⟩
            case measure => simp [intOf]; omega
          · obtain ⟨N, rfl⟩ := Int.eq_ofNat_of_zero_le (show 0 ≤ N by omega)
            obtain ⟨D, rfl⟩ := Int.eq_ofNat_of_zero_le (show 0 ≤ D by omega)
            have hN0 : ((N : Int) == 0) = false := by simpa using h0
            have hcap2 : ((16777216 : Int) < (m : Int) + (N : Int)) = False := eq_false (by omega)
            have HC : Hid (m + N ≤ 16777216) := by show _ ≤ _; omega
            by_cases hfar : m < D
            · have hst : step out ⟨0, N, D⟩ = (3, []) := by unfold step; rw [if_neg (by simpa using hS), if_neg (by rw [hHm.out]; exact hcap), if_neg h0, if_pos (by show (out.length : Int) < (D : Int); omega)]
              have hfin : (3, []) = expand [] l := by rw [← HEX.out, hst]; rfl
              have HF := Lib.hid hfin
              have hfI : (m : Int) < (D : Int) := by omega
              clear hfin hst hS hcap hm hfar
              go_wp2_with fail
              refine (rsound_any 0 _ _ _).mono ?_
              rintro e w2 ⟨rfl, hb2⟩
              rw [hs]
              have hbw2 := hb.trans (hb2.mono hb.size)
              have e1 := (hbw2.cell hab (p := ⟨(ad.add (k * 3)).block, (ad.add (k * 3)).off + 1, none⟩)).trans HA1.out
              have e2 := (hbw2.cell hab (p := ⟨(ad.add (k * 3)).block, (ad.add (k * 3)).off + 2, none⟩)).trans HA2.out
              go_wp2
              go_ret2
              exact ⟨none, 0, 0, by rw [← HF.out]; rfl, by rw [← HF.out]; exact OwnI.nil_, hbw2⟩
            · have hst : step out ⟨0, N, D⟩ = (0, out ++ again out D N) := by unfold step; rw [if_neg (by simpa using hS), if_neg (by rw [hHm.out]; exact hcap), if_neg h0, if_neg (by show ¬ (out.length : Int) < (D : Int); omega)]; rfl
              have hnx : expand (out ++ again out D N) (l.drop (k + 1)) = expand [] l := by rw [← HEX.out, hst]; rfl
              have HF := Lib.hid hnx
              have hfE : (m < D) = False := eq_false (by omega)
              have HFI : Hid (D ≤ m) := by show _ ≤ _; omega
              clear hnx hst hS hcap hm hfar
              go_wp2_with fail
              refine (rsound_any 0 _ _ _).mono ?_
              rintro e w2 ⟨rfl, hb2⟩
              rw [hs]
              have hbw2 := hb.trans (hb2.mono hb.size)
              have e1 := (hbw2.cell hab (p := ⟨(ad.add (k * 3)).block, (ad.add (k * 3)).off + 1, none⟩)).trans HA1.out
              have e2 := (hbw2.cell hab (p := ⟨(ad.add (k * 3)).block, (ad.add (k * 3)).off + 2, none⟩)).trans HA2.out
              have ho2 := ho.keeps hb2
              go_wp2_with fail
              go_loopw [4, 6] (RexpIn w out D N) (fun _ j _ => N - (intOf j).toNat)
              case atStart => exact ⟨0, A1, m, d, Nat.zero_le _, rfl, rfl, by rw [again_zero, List.append_nil]; exact ho2, hbw2⟩
              case round =>
                obtain ⟨j, A5, M, d5, hj, rfl, rfl, ho5, hb5⟩ := hrel
                have e1 := (hb5.cell hab (p := ⟨(ad.add (k * 3)).block, (ad.add (k * 3)).off + 1, none⟩)).trans HA1.out
                have e2 := (hb5.cell hab (p := ⟨(ad.add (k * 3)).block, (ad.add (k * 3)).off + 2, none⟩)).trans HA2.out
                have hM : M = m + j := by have := ho5.1; rw [List.length_append, again_length, ← HMM.out] at this; exact this
                by_cases hjN : j < N
                · have hj0 : (0 : Int) ≤ j ∧ (j : Int) < N := by omega
                  obtain ⟨P, hP⟩ : ∃ P : Nat, M - D = P := ⟨_, rfl⟩
                  have hDM : D ≤ M := by have := HFI.out; omega
                  have hPI : (M : Int) - (D : Int) = (P : Int) := by omega
                  have hPb : (0 : Int) ≤ P ∧ (P : Int) < (M : Int) := by omega
                  have hMb : (M : Int) ≤ 16777216 + 258 := by omega
                  obtain ⟨g5, rfl⟩ := ho5.2.addr (by omega)
                  have c5 := ho5.2.cell (i := P) (by omega)
                  have hag := again_succ out D j (by omega) (by rw [← HMM.out]; exact HFI.out)
                  rw [← HMM.out, ← hM, hP] at hag
                  obtain ⟨v, hv⟩ : ∃ v : Int, ix (out ++ again out D j) P = v := ⟨_, rfl⟩
                  rw [hv] at c5 hag
                  have HAG := Lib.hid hag
                  have ho6 := ho5.alloc (.cells #[.int .u8 v] 5)
                  have hb6 := hb5.alloc hb5.size (.cells #[.int .u8 v] 5)
                  have hMN : M + 1 ≤ 1000000000000 := by have := HC.out; omega
                  have HMN := Lib.hid hMN
                  have HM := Lib.hid hM
                  clear hag hv hP hM hMN
                  go_wp2_with (at_builtin; (refine wpList_app .u8 w.heap.size 5 i0 1 rfl (.tmp 72) (.tmp 84) _ rfl Try.underlying36 Hi.out Hz0.out Hz1.out Hz2.out rfl ho6 rfl (RdI.lit .u8 wr [v] 5) HMN.out (by omega) (by have := hb6.size; exact this) ?_)
                               intro A7 d7 w7 hown7 hg7 hat7)
                  go_roundw
                  case rel =>
                    exact ⟨j + 1, A7, M + 1, d7, by omega, by go_num, rfl, by rw [HAG.out, ← List.append_assoc]; exact hown7, hb6.grown hg7 hb6.size (fun q hq => (ho5.2.lt hq).1)⟩
                  case measure => simp [intOf]; omega
                · obtain rfl : N = j := by omega
                  go_wp2
                  go_roundw
                  case rel =>
                    exact ⟨k + 1, _, A5, M, d5, by omega, by go_num, rfl, ho5, hb5, HF.out, by have := HC.out; have := HMM.out; rw [List.length_append, again_length]; omega⟩
                  case measure => simp [intOf]; omega
      · have hs : soundB L N D = false := by rw [soundB_iff]; simpa using hS
        have hst : step out ⟨L, N, D⟩ = (1, []) := by unfold step; rw [if_pos hS]
        have hfin : (1, []) = expand [] l := by rw [← HEX.out, hst]; rfl
        have HF := Lib.hid hfin
        clear hfin hst hS
        go_wp2_with fail
        refine (rsound_any L N D _).mono ?_
        rintro e w2 ⟨rfl, hb2⟩
        rw [hs]
        go_wp2
        go_ret2
        exact ⟨none, 0, 0, by rw [← HF.out]; rfl, by rw [← HF.out]; exact OwnI.nil_, hb.trans (hb2.mono hb.size)⟩
    · obtain rfl : n = k := by omega
      rw [hr.1, List.drop_length] at hex
      have HF := Lib.hid hex
      clear hex
      go_wp2
      go_ret2
      exact ⟨A1, m, d, by rw [← HF.out]; rfl, by rw [← HF.out]; exact ho, hb⟩
end Go.Proofs.Ytckhkkjdibcclaa
