/-
  The walk of the statement MatchMeans.
-/
import Derived.Test.YtlnmicocmbdbdaaProg
import Derived.Test.YtlnmicocmbdbdaaText9
import Derived.Test.YtlnmicocmbdbdaaRExp
import Derived.Test.YtlnmicocmbdbdaaSame
import Derived.Test.YtlnmicocmbdbdaaOpenC
namespace Go.Proofs.Ytlnmicocmbdbdaa
open Go.RowKit
set_option linter.unusedVariables false

theorem whole_expand {e : Eff} {x : List Int} {l : List Tok} {st' : FSt} (h : Run e 0 (writeF newF x) l st') (hend : st'.at_ = st'.D.length) (hx : x.length ≤ 16777216) : expand [] l = (0, x) := by
  have hok : (writeF newF x).Ok (writeF newF x).at_ := Ok.new.write x
  have h1 := run_expand h hok (by show ([] ++ x).length ≤ _; simpa using hx) [] [] rfl
  obtain ⟨-, hD, -, -⟩ := run_ok h hok
  rw [List.nil_append, hend, hD] at h1
  rw [h1]
  show (0, (writeF newF x).D.take (writeF newF x).D.length) = _
  rw [List.take_length]; rfl
def MeansRel (wB : World) (n : Nat) (i : Value) (wr : World) : Prop := ∃ k : Nat, k ≤ n ∧ i = .int .i64 k ∧ wr = wB
set_option maxRecDepth 100000 in
set_option maxHeartbeats 4000000 in
theorem matchMeans_law (A : Option Addr) (n c : Nat) (b : List Int) (times turn level : Int) (w : World) (T : InC .u8 w A n c b) (ht : (Lit.int .u8 times).wf = true) (hu : (Lit.int .u8 turn).wf = true) (hl : (Lit.int .i64 level).wf = true) :
    Calls Try.prog 3 #[.slice A n c, .int .u8 times, .int .u8 turn, .int .i64 level] w fun e w' => e = .returned (.bool true) ∧ Below w.heap.size w w' := by
  obtain ⟨R, m0, f0, lc0, cm0⟩ := T
  have hn : (n : Int) ≤ 9223372036854775807 := by unfold maxLen at m0; omega
  have hby : ∀ x ∈ b, 0 ≤ x ∧ x < 256 := fun x hx => bounds_u8 (f0 x hx)
  have htb := bounds_u8 ht
  have hub := bounds_u8 hu
  have hlb := bounds_i64 hl
  clear m0 f0 cm0 ht hu hl
  by_cases h500 : 500 < (n : Int)
  · go_enter Try.func3, Try.ntmps3
    go_wp2_with fail
    refine (answers9_any _).mono ?_
    rintro e w4 ⟨rfl, hb4⟩
    go_wp2
    go_ret
    exact ⟨rfl, hb4⟩
  have hn1 : (n : Int) ≤ 500 ∧ (0 : Int) ≤ n := by omega
  obtain ⟨i0, hi, hz0, hz1, hz2⟩ := info_parts fbyte2_info
  have Hi := Lib.hid hi
  have Hz0 := Lib.hid hz0
  have Hz1 := Lib.hid hz1
  have Hz2 := Lib.hid hz2
  clear hi hz0 hz1 hz2
  have HNb := Lib.hid R.1
  go_enter Try.func3, Try.ntmps3
  go_wp2_with fail
  refine (text_any w A n c _ b times turn R (Nat.le_refl _) hn1.1 hby htb hub).mono ?_
  rintro r w1 ⟨n1, c1, A1, x, rfl, hx1, hn1x, hxb, -, hb1⟩
  have hn1b : n1 ≤ 20000 := by
    have h5 : ((times % 40).toNat + 1) * b.length ≤ 40 * 500 := Nat.mul_le_mul (by omega) (by have := HNb.out; omega)
    omega
  have hxl : x.length ≤ 20000 := by rw [← hx1.1]; exact hn1b
  have hra := hx1.rd.alloc (Nat.le_refl _) (.cells #[] 5)
  have hx1a := hx1.alloc (.cells #[] 5)
  clear hn1x
  go_wp2_with (at_builtin; (refine wpList_app .u8 w1.heap.size 5 i0 1 rfl (.tmp 22) (.tmp 23) _ rfl Try.underlying22 Hi.out Hz0.out Hz1.out Hz2.out rfl (OwnI.lit rfl [] _ (Nat.le_refl _) (by simp)) rfl hra (by simp; omega) (by omega) (by simp) ?_)
               intro A2 d2 w2 ho2 hg2 hat2)
  rw [List.nil_append, Nat.zero_add] at ho2
  have hb2 : Below w1.heap.size w1 w2 := ((Below.refl _ w1).alloc (Nat.le_refl _) _).grown hg2 (by simp) (by simp [blkOf])
  have hbw2 := hb1.trans (hb2.mono hb1.size)
  have hx2 := hx1.keeps hb2
  clear hra hx1a hg2 hat2
  go_wp2_with fail
  refine (mtok_any level _ hlb ho2.rd (Nat.le_refl _) hxb (by omega)).mono ?_
  rintro r w3 ⟨l, st', A3, n3, c3, rfl, hrun, hend, ho3, hb3⟩
  have hbw3 := hbw2.trans (hb3.mono hbw2.size)
  have hx3 := hx2.keeps hb3
  have hexp := whole_expand hrun hend (by omega)
  have hn3 : n3 ≤ 20000 := by
    have hok : (writeF newF x).Ok (writeF newF x).at_ := Ok.new.write x
    obtain ⟨h5, hD, h6, -⟩ := run_ok hrun hok
    have := h5.hi
    rw [hD] at this
    have h7 : (writeF newF x).D.length = x.length := by show ([] ++ x).length = _; simp
    have h8 : (writeF newF x).at_ = 0 := rfl
    have := ho3.1
    omega
  go_wp2_with fail
  refine (rexpand_any _ _ _ _ l ho3.rd (by omega)).mono ?_
  rintro r w4 ⟨A4, n4, c4, rfl, ho4, hb4⟩
  rw [hexp] at ho4 ⊢
  dsimp only at ho4 ⊢
  have hbw4 := hbw3.trans (hb4.mono hbw3.size)
  have hx4 := hx3.keeps hb4
  have ho34 := ho3.below hb4 (Nat.le_refl _)
  go_wp2_with fail
  refine (answers9_any _).mono ?_
  rintro e w5 ⟨rfl, hb5⟩
  have hbw5 := hbw4.trans (hb5.mono hbw4.size)
  have hx5 := hx4.keeps hb5
  have ho5 := ho4.keeps hb5
  have ho35 := ho34.below hb5 (Nat.le_refl _)
  go_wp2_with fail
  refine (same_any _ _ _ _ _ _ _ _ _ _ hx5.rd ho5.rd (by omega) rfl).mono ?_
  rintro e w6 ⟨rfl, q6, rfl⟩
  have hbw6 := below_drewN hbw5 q6
  have ho36 := ho35.below (below_drewN (Below.refl _ w5) q6) (Nat.le_refl _)
  have hst : MeansRel (w5.drewN q6) n3 (.int .i64 0) (w5.drewN q6) := ⟨0, Nat.zero_le _, rfl, rfl⟩
  have hlits := Lib.hid (fun h0 => run_lits hrun (Ok.new.write x) h0)
  have hlv := Lib.hid (effOf_zero level)
  clear hx1 hx2 hx3 hx4 hx5 ho2 ho4 ho5 hrun hexp
  go_wp2_with fail
  go_loopw [13] (MeansRel (w5.drewN q6) n3) (fun i _ => n3 - (intOf i).toNat)
  case atStart => exact hst
  case round =>
    clear hst
    obtain ⟨k, hk, rfl, rfl⟩ := hrel
    by_cases hlt : k < n3
    · have hkI : (k : Int) < (n3 : Int) ∧ (0 : Int) ≤ k := by omega
      by_cases hl0 : level ≤ 0
      · obtain ⟨ad, rfl, hadb, hcs⟩ := ho36.rd.2 (by omega)
        obtain ⟨a0, a1, a2⟩ := hcs k hlt
        rw [addr_next _ _ _ (by omega)] at a1
        have hlen : (tokAt l k).len = 0 := by
          have hkl : k < l.length := by rw [← ho36.1]; exact hlt
          have e1 : tokAt l k = l[k] := by simp [tokAt, hkl]
          rw [e1]
          exact hlits.out (hlv.out.2 hl0) _ (List.getElem_mem hkl)
        rw [hlen] at a1
        clear hcs a0 a2 hlen
        go_wp2_with fail
        go_roundw
        case rel => exact ⟨k + 1, hlt, by go_num, rfl⟩
        case measure => simp [intOf]; omega
      · have hl1 : 0 < level := by omega
        go_wp2_with fail
        go_ret
        exact ⟨rfl, hbw6⟩
    · obtain rfl : k = n3 := by omega
      go_wp2_with fail
      go_ret
      exact ⟨rfl, hbw6⟩
end Go.Proofs.Ytlnmicocmbdbdaa
