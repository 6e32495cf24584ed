/-
  The walk of the statement MatchAlike.
-/
import Derived.Test.YtlnmicocmbdbdaaProg
import Derived.Test.YtlnmicocmbdbdaaLawMMeans
import Derived.Test.YtlnmicocmbdbdaaFndS
import Derived.Test.YtlnmicocmbdbdaaSameT
namespace Go.Proofs.Ytlnmicocmbdbdaa
open Go.RowKit
set_option linter.unusedVariables false

def AlikeRel (w1 : World) (e : Eff) (x : List Int) (g gm : Nat) (l at_ _end : Value) (wr : World) : Prop :=
  ∃ (k nt ct n c nm np cp : Nat) (At A Ap : Option Addr) (Dm : DataW Unit) (toks : List Tok) (sA sB : FSt), at_ = .int .i64 k ∧ l = .slice At nt ct ∧ OwnT wr w1.heap.size At nt ct toks ∧ FndC wr w1.heap.size g e sA sA.at_ A n c gm nm Dm Ap np cp ∧
    (∀ q, blkOf At = some q → ¬ FF A gm Ap g q) ∧ Run e 0 (writeF newF x) toks sB ∧ Sim sA sB (min k x.length) ∧ Below w1.heap.size w1 wr
theorem nF_D (x : List Int) : (writeF newF x).D = x := by show [] ++ x = x; rfl
set_option maxRecDepth 100000 in
set_option maxHeartbeats 8000000 in
theorem matchAlike_law (A : Option Addr) (n c : Nat) (b : List Int) (times part level : Int) (w : World) (T : InC .u8 w A n c b) (ht : (Lit.int .u8 times).wf = true) (hp : (Lit.int .u16 part).wf = true) (hl : (Lit.int .i64 level).wf = true) :
    Calls Try.prog 5 #[.slice A n c, .int .u8 times, .int .u16 part, .int .i64 level] w fun e w' => e = .returned (.bool true) ∧ Below w.heap.size w w' := by
  obtain ⟨R, m0, f0, lc0, cm0⟩ := T
  have hn : (n : Int) ≤ 9223372036854775807 := by unfold maxLen at m0; omega
  have hby : ∀ x ∈ b, 0 ≤ x ∧ x < 256 := fun x hx => bounds_u8 (f0 x hx)
  have htb := bounds_u8 ht
  have hpb := bounds_u16 hp
  have hlb := bounds_i64 hl
  clear m0 f0 cm0 ht hp hl
  by_cases h500 : 500 < (n : Int)
  · go_enter Try.func5, Try.ntmps5
    go_wp2_with fail
    refine (answers9_any _).mono ?_
    rintro e w4 ⟨rfl, hb4⟩
    go_wp2
    go_ret
    exact ⟨rfl, hb4⟩
  have hn1 : (n : Int) ≤ 500 ∧ (0 : Int) ≤ n := by omega
  obtain ⟨N, hN⟩ := Int.eq_ofNat_of_zero_le (show 0 ≤ part % 3000 by omega)
  have hNt : part.tmod 3000 = (N : Int) := by rw [Int.tmod_eq_emod_of_nonneg hpb.1, hN]
  have hNb : (0 : Int) ≤ N ∧ (N : Int) ≤ 2999 := by omega
  obtain ⟨i0, hi, hz0, hz1, hz2⟩ := info_parts wtok_info
  have Hi := Lib.hid hi
  have Hz0 := Lib.hid hz0
  have Hz1 := Lib.hid hz1
  have Hz2 := Lib.hid hz2
  clear hi hz0 hz1 hz2
  obtain ⟨i1, hi, hz0, hz1, hz2⟩ := info_parts fbyte2_info
  have Hb := Lib.hid hi
  have Hb1 := Lib.hid hz1
  clear hi hz0 hz1 hz2
  have HNb := Lib.hid R.1
  go_enter Try.func5, Try.ntmps5
  go_wp2_with fail
  refine (text_any w A n c _ b times 1 R (Nat.le_refl _) hn1.1 hby htb (by omega)).mono ?_
  rintro r w1 ⟨n1, c1, A1, x, rfl, hx1, hn1x, hxb, -, hb1⟩
  have hn1b : n1 ≤ 20000 := by
    have h5 : ((times % 40).toNat + 1) * b.length ≤ 40 * 500 := Nat.mul_le_mul (by omega) (by have := HNb.out; omega)
    omega
  have hxl : x.length ≤ 20000 := by rw [← hx1.1]; exact hn1b
  have hcap := hx1.2.capLe
  have hxr := hx1.rd
  have HX1 := Lib.hid hx1.1
  clear hn1x
  go_wp2_with fail
  refine (fnew_any level _ hlb).mono ?_
  rintro r w2 ⟨g, gm, rfl, hf2, hb2⟩
  obtain ⟨E, hE⟩ : ∃ E, effOf level = E := ⟨_, rfl⟩
  rw [hE] at hf2
  have HE := Lib.hid hE
  clear hE
  have hst : AlikeRel w1 E x g gm (.slice none 0 0) (.int .i64 0) undef w2 :=
    ⟨0, 0, 0, 0, 0, 0, 0, 0, none, none, none, _, [], newF, writeF newF x, rfl, rfl, ⟨rfl, Own.nil_⟩, hf2, by simp [blkOf], .nil _, ⟨by simp [newF], by simp, fun q => by
      show ix [] q = ix ([] ++ List.replicate x.length 0) q
      rw [List.nil_append, ix_rep]; simp [ix], (by show 0 = (if _ then 0 - 32768 else 0); split <;> rfl), rfl, rfl⟩, hb2⟩
  have hst2 : ∀ v, AlikeRel w1 E x g gm (.slice none 0 0) (.int .i64 0) v w2 := fun v => hst
  clear hst hf2
  go_wp2_with fail
  go_loopw [12, 13, 14] (AlikeRel w1 E x g gm) (fun _ i _ _ => n1 - (intOf i).toNat)
  case atStart => exact hst2 _
  case round =>
    clear hst2 hb2
    obtain ⟨k, nt, ct, nA, cA, nm, np, cp, At, Ad, Ap, Dm, toks, sA, sB, rfl, rfl, ho, hf, hFF, hrun, hsim, hb⟩ := hrel
    have hokB : (writeF newF x).Ok (writeF newF x).at_ := Ok.new.write x
    obtain ⟨hB1, hB2, hB3, -⟩ := run_ok hrun hokB
    rw [nF_D] at hB2
    have hntb : nt ≤ 20000 := by
      have := hB1.hi; rw [hB2] at this
      have h8 : (writeF newF x).at_ = 0 := rfl
      have := ho.1; omega
    by_cases hlt : k < n1
    · have hkI : (k : Int) < (n1 : Int) ∧ (0 : Int) ≤ k ∧ (n1 : Int) ≤ 20000 := by omega
      by_cases hend : (n1 : Int) < (k : Int) + ((N : Int) + 1)
      · skip
        have hsl := run_slice_mid (P := Try.prog) 22 5 Try.underlying22 Hb.out Hb1.out A1 n1 c1 (a := k) (b := n1) (by omega) (by omega)
        have hrd := ((hxr.below hb).cutA (j := k) (by omega) hcap).pre (j := n1 - k) (by omega)
        have hylen : ((x.drop k).take (n1 - k)).length = n1 - k := by rw [List.length_take, List.length_drop, ← HX1.out]; omega
        have hkm : min k x.length = k := by rw [← HX1.out]; omega
        rw [hkm] at hsim
        have hSW := hsim.write (y := (x.drop k).take (n1 - k)) hf.ok.len (by rw [hB2, hylen, ← List.take_add]) (by rw [hB2, hylen, ← HX1.out]; omega) (by rw [hB2]; omega)
        rw [hylen, show k + (n1 - k) = n1 by omega] at hSW
        have hyb : ∀ v ∈ (x.drop k).take (n1 - k), 0 ≤ v ∧ v < 256 := fun v hv => hxb v (List.mem_of_mem_drop (List.mem_of_mem_take hv))
        have hDl : sA.D.length + (n1 - k) ≤ 100000000000 := by have := hsim.len; omega
        obtain ⟨y, hy⟩ : ∃ y, (x.drop k).take (n1 - k) = y := ⟨_, rfl⟩
        rw [hy] at hrd hSW hyb
        have HSW := Lib.hid hSW
        clear hylen hkm hSW hy hsim
        go_wp2_with fail
        refine (fwrite_any hf hrd hb.size hyb hDl).mono ?_
        rintro r w5 ⟨rfl, A5, n5, c5, Ap5, np5, cp5, nm5, Dm5, hf5, hc5, hF5⟩
        have hlo5 := fun q hq => (hf.foot_lo (k := q) hq).1
        have hb5 := hb.trans (hc5.below hlo5 hb.size)
        have ho5 : OwnT w5 w1.heap.size At nt ct toks := ⟨ho.1, hc5.own ho.2 hFF⟩
        have hFF5 : ∀ q, blkOf At = some q → ¬ FF A5 gm Ap5 g q := fun q hq h => by
          rcases hF5 q h with h2 | h2
          · exact hFF q hq h2
          · have := (ho.2.lt hq).2; omega
        clear hf hc5 hlo5 hrd hFF hF5 ho hb hyb hDl
        go_wp2_with fail
        refine (mtokens_any false hf5).mono ?_
        rintro r w6 ⟨l6, s6, A6, n6, c6, rfl, hrun6, -, ho6, ⟨nm6, Dm6, hf6⟩, hc6⟩
        have hb6 := hb5.trans (hc6.below (fun q hq => (hf5.foot_lo hq).1) hb5.size)
        have ho56 : OwnT w6 w1.heap.size At nt ct toks := ⟨ho5.1, hc6.own ho5.2 hFF5⟩
        obtain ⟨sB6, hrB, hsim6⟩ := run_sim hrun6 HSW.out (by exact hf5.ok) hB1
        have hrun7 := hrun.trans hrB
        obtain ⟨h61, h62, h63, -⟩ := run_ok hrun7 hokB
        rw [nF_D] at h62
        have hn6b : nt + n6 ≤ 20000 := by
          have := h61.hi; rw [h62] at this
          have h8 : (writeF newF x).at_ = 0 := rfl
          rw [List.length_append] at h63
          have := ho5.1; have := ho6.1; omega
        have hlt6 : ∀ q, FF A5 gm Ap5 g q → q < w6.heap.size := fun q hq => (hf6.foot_lo hq).2
        have hb06 := hb6.size
        clear hrun6 hrB h61 h62 h63 ho5 hf5 hb5 HSW hc6
        go_wp2_with (at_builtin; (refine wpList_appT w1.heap.size i0 rfl (.tmp 50) (.tmp 52) rfl Hi.out Hz0.out Hz1.out Hz2.out rfl ho56 rfl ho6.rd (by omega) hb06 ?_); intro A7 c7 w7 ho7 hg7 hat7)
        have hk7 : Chg w6 w7 (fun q => blkOf At = some q) := (Chg.refl w6 (fun q => blkOf At = some q)).grown hg7 fun q hq => .inl hq
        have hf7 := hf6.chg hk7 fun q hq h => hFF5 q h hq
        have hb7 := hb6.grown hg7 hb06 fun q hq => (ho56.2.lt hq).1
        have hFF7 : ∀ q, blkOf A7 = some q → ¬ FF A5 gm Ap5 g q := fun q hq h => by
          rcases hat7 with h2 | h2
          · exact hFF5 q (h2 ▸ hq) h
          · rw [h2] at hq; injection hq with hq; have := hlt6 q h; omega
        go_roundw
        case rel => exact ⟨k + (N + 1), _, _, _, _, _, _, _, A7, A5, Ap5, Dm6, _, s6, sB6, by go_num, rfl, ho7, hf7, hFF7, hrun7, by rw [show min (k + (N + 1)) x.length = n1 by rw [← HX1.out]; omega]; exact hsim6, hb7⟩
        case measure => simp [intOf]; omega
      · obtain ⟨en, hen⟩ : ∃ en, k + (N + 1) = en := ⟨_, rfl⟩
        have henI : (k : Int) + ((N : Int) + 1) = (en : Int) := by omega
        have hen1 : en ≤ n1 ∧ k < en := by omega
        have hendI : ¬ (n1 : Int) < (en : Int) := by omega
        have HEN := Lib.hid hen
        clear hen
        have hsl := run_slice_mid (P := Try.prog) 22 5 Try.underlying22 Hb.out Hb1.out A1 n1 c1 (a := k) (b := en) (by omega) (by omega)
        have hrd := ((hxr.below hb).cutA (j := k) (by omega) hcap).pre (j := en - k) (by omega)
        have hylen : ((x.drop k).take (en - k)).length = en - k := by rw [List.length_take, List.length_drop, ← HX1.out]; omega
        have hkm : min k x.length = k := by rw [← HX1.out]; omega
        rw [hkm] at hsim
        have hSW := hsim.write (y := (x.drop k).take (en - k)) hf.ok.len (by rw [hB2, hylen, ← List.take_add]) (by rw [hB2, hylen, ← HX1.out]; omega) (by rw [hB2]; omega)
        rw [hylen, show k + (en - k) = en by omega] at hSW
        have hyb : ∀ v ∈ (x.drop k).take (en - k), 0 ≤ v ∧ v < 256 := fun v hv => hxb v (List.mem_of_mem_drop (List.mem_of_mem_take hv))
        have hDl : sA.D.length + (en - k) ≤ 100000000000 := by have := hsim.len; omega
        obtain ⟨y, hy⟩ : ∃ y, (x.drop k).take (en - k) = y := ⟨_, rfl⟩
        rw [hy] at hrd hSW hyb
        have HSW := Lib.hid hSW
        clear hylen hkm hSW hy hsim
        go_wp2_with fail
        refine (fwrite_any hf hrd hb.size hyb hDl).mono ?_
        rintro r w5 ⟨rfl, A5, n5, c5, Ap5, np5, cp5, nm5, Dm5, hf5, hc5, hF5⟩
        have hlo5 := fun q hq => (hf.foot_lo (k := q) hq).1
        have hb5 := hb.trans (hc5.below hlo5 hb.size)
        have ho5 : OwnT w5 w1.heap.size At nt ct toks := ⟨ho.1, hc5.own ho.2 hFF⟩
        have hFF5 : ∀ q, blkOf At = some q → ¬ FF A5 gm Ap5 g q := fun q hq h => by
          rcases hF5 q h with h2 | h2
          · exact hFF q hq h2
          · have := (ho.2.lt hq).2; omega
        clear hf hc5 hlo5 hrd hFF hF5 ho hb hyb hDl
        go_wp2_with fail
        refine (mtokens_any false hf5).mono ?_
        rintro r w6 ⟨l6, s6, A6, n6, c6, rfl, hrun6, -, ho6, ⟨nm6, Dm6, hf6⟩, hc6⟩
        have hb6 := hb5.trans (hc6.below (fun q hq => (hf5.foot_lo hq).1) hb5.size)
        have ho56 : OwnT w6 w1.heap.size At nt ct toks := ⟨ho5.1, hc6.own ho5.2 hFF5⟩
        obtain ⟨sB6, hrB, hsim6⟩ := run_sim hrun6 HSW.out (by exact hf5.ok) hB1
        have hrun7 := hrun.trans hrB
        obtain ⟨h61, h62, h63, -⟩ := run_ok hrun7 hokB
        rw [nF_D] at h62
        have hn6b : nt + n6 ≤ 20000 := by
          have := h61.hi; rw [h62] at this
          have h8 : (writeF newF x).at_ = 0 := rfl
          rw [List.length_append] at h63
          have := ho5.1; have := ho6.1; omega
        have hlt6 : ∀ q, FF A5 gm Ap5 g q → q < w6.heap.size := fun q hq => (hf6.foot_lo hq).2
        have hb06 := hb6.size
        clear hrun6 hrB h61 h62 h63 ho5 hf5 hb5 HSW hc6
        go_wp2_with (at_builtin; (refine wpList_appT w1.heap.size i0 rfl (.tmp 50) (.tmp 52) rfl Hi.out Hz0.out Hz1.out Hz2.out rfl ho56 rfl ho6.rd (by omega) hb06 ?_); intro A7 c7 w7 ho7 hg7 hat7)
        have hk7 : Chg w6 w7 (fun q => blkOf At = some q) := (Chg.refl w6 (fun q => blkOf At = some q)).grown hg7 fun q hq => .inl hq
        have hf7 := hf6.chg hk7 fun q hq h => hFF5 q h hq
        have hb7 := hb6.grown hg7 hb06 fun q hq => (ho56.2.lt hq).1
        have hFF7 : ∀ q, blkOf A7 = some q → ¬ FF A5 gm Ap5 g q := fun q hq h => by
          rcases hat7 with h2 | h2
          · exact hFF5 q (h2 ▸ hq) h
          · rw [h2] at hq; injection hq with hq; have := hlt6 q h; omega
        go_roundw
        case rel => exact ⟨k + (N + 1), _, _, _, _, _, _, _, A7, A5, Ap5, Dm6, _, s6, sB6, by go_num, rfl, ho7, hf7, hFF7, hrun7, by rw [show min (k + (N + 1)) x.length = en by rw [← HX1.out]; have := HEN.out; omega]; exact hsim6, hb7⟩
        case measure => simp [intOf]; omega
    · have hkI : ¬ (k : Int) < (n1 : Int) := by omega
      rw [show min k x.length = sB.D.length by rw [hB2, ← HX1.out]; omega] at hsim
      have hAB := hsim.eq rfl hf.ok.len hB1.len
      subst hAB
      go_wp2_with fail
      refine (mtokens_any true hf).mono ?_
      rintro r w6 ⟨l6, s6, A6, n6, c6, rfl, hrun6, hend6, ho6, ⟨nm6, Dm6, hf6⟩, hc6⟩
      have hb6 := hb.trans (hc6.below (fun q hq => (hf.foot_lo hq).1) hb.size)
      have ho56 : OwnT w6 w1.heap.size At nt ct toks := ⟨ho.1, hc6.own ho.2 hFF⟩
      have hrun7 := hrun.trans hrun6
      obtain ⟨h61, h62, h63, -⟩ := run_ok hrun7 hokB
      rw [nF_D] at h62
      have hn6b : nt + n6 ≤ 20000 := by
        have := h61.hi; rw [h62] at this
        have h8 : (writeF newF x).at_ = 0 := rfl
        rw [List.length_append] at h63
        have := ho.1; have := ho6.1; omega
      have hb06 := hb6.size
      go_wp2_with (at_builtin; (refine wpList_appT w1.heap.size i0 rfl (.tmp 54) (.tmp 56) rfl Hi.out Hz0.out Hz1.out Hz2.out rfl ho56 rfl ho6.rd (by omega) hb06 ?_); intro A7 c7 w7 ho7 hg7 hat7)
      have hb7 := hb6.grown hg7 hb06 fun q hq => (ho56.2.lt hq).1
      clear hf hf6 hc6 ho6 ho56 hrun hrun6 hsim hFF hb6 hb ho hg7 hat7 hB1 h61 h62 h63
      obtain ⟨n7, hn7⟩ : ∃ n7, nt + n6 = n7 := ⟨_, rfl⟩
      rw [hn7] at ho7 hn6b ⊢
      clear hn7
      go_wp2_with fail
      refine (answers9_any _).mono ?_
      rintro e w8 ⟨rfl, hb8⟩
      have hb78 := hb7.trans (hb8.mono hb7.size)
      have ho8 := ho7.below hb8 (Nat.le_refl _)
      go_wp2_with fail
      refine (mtok_any level _ hlb (hxr.below hb78) hb78.size hxb (by omega)).mono ?_
      rintro r w9 ⟨l9, s9, A9, n9, c9, rfl, hrun9, hend9, ho9, hb9⟩
      rw [HE.out] at hrun9
      have hll := Run.det hrun7 hrun9 (by simpa using hend6) (by omega)
      have ho89 := ho8.below hb9 (Nat.le_refl _)
      have hbw9 := hb1.trans ((hb78.trans (hb9.mono hb78.size)).mono hb1.size)
      go_wp2_with fail
      refine (sameT_any _ _ _ _ _ _ _ _ _ _ _ ho89.rd ho9.rd (by omega) hll).mono ?_
      rintro e w10 ⟨rfl, q10, rfl⟩
      go_wp2_with fail
      go_ret
      exact ⟨rfl, below_drewN hbw9 q10⟩
end Go.Proofs.Ytlnmicocmbdbdaa
