/-
  Several texts in one (written by merge.py): XInfT, XInfU, XInfW, XSame, XAns12, XOpenG, XOpenC, XLawINone.
-/
import Derived.Test.YtoegpffdbfkcpaaInfL
import Derived.Test.YtoegpffdbfkcpaaInfN
import Derived.Deep.DeepMust
import Derived.Test.YtoegpffdbfkcpaaOwn
import Derived.Test.YtoegpffdbfkcpaaProg
import Derived.Test.YtoegpffdbfkcpaaBase
import Derived.Handy
import Derived.Deep.Slices
import Derived.Deep.Fields
import Derived.ProofKit
import Derived.OpenShut
import Derived.ChangeSame
import Derived.ChangeArms
import Derived.KernelRfl
/-
  The walk of the decoder's Take.
-/
namespace Go.Proofs.Ytoegpffdbfkcpaa
open Go.RowKit
set_option linter.unusedVariables false
section
variable {w w' w0 w2 : World} {b0 g : Nat} {c c0 : Nat → Nat} {M M' : DM} {S S' : DS} {s t t' : IS} {b : List Int} {v : Int}
theorem dtake_nil (w : World) (n : Int) : Calls Try.prog 12 #[.pointer none, .int .i64 n] w fun e w' => e = .returned (.tuple #[.slice none 0 0, .int .i64 8]) ∧ w = w' := by
  go_enter Try.func12, Try.ntmps12
  go_wp2
  go_ret2
  exact ⟨rfl, rfl⟩
theorem drest_nil (w : World) : Calls Try.prog 13 #[.pointer none] w fun e w' => e = .returned (.slice none 0 0) ∧ w = w' := by
  go_enter Try.func13, Try.ntmps13
  go_wp2
  go_ret
  exact ⟨rfl, rfl⟩
/-- ahead of Take's cut: b came out; k bounds the rounds -/
def TakeR (w0 : World) (c0 : Nat → Nat) (b0 g : Nat) (M : DM) (F : IS × Int) (a : List Int) (n : Nat) (k : Nat) (v6 : Value) (wr : World) : Prop :=
  ∃ M' S' b v, v6 = .int .i64 v ∧ InfS w0 c0 wr b0 g M' S' ∧ M'.out = M.out ++ b ∧ M'.out.length ≤ max M.out.length (n + 70000) ∧
    ((v = 0 ∧ ∃ s, Alive F (a ++ b) M' S' s ∧ Hid (k = s.mu + 1)) ∨ (v = 5 ∧ ∃ s, Alive F (a ++ b) M' S' s ∧ s.step.2 = 5) ∨ Ended F (a ++ b) M' S')
/-- how Take answers: l the bytes, q what waits on -/
def TakeE (F : IS × Int) (a : List Int) (M : DM) (S : DS) (n : Nat) (l : List Int) (r : Int) : Prop :=
  (r = 0 ∧ l.length = n ∧ ((∃ s, Alive F a M S s) ∨ Ended F a M S)) ∨
  (r = 5 ∧ l.length < n ∧ M.out = [] ∧ ((∃ s, Alive F a M S s ∧ s.step.2 = 5) ∨ (0 < l.length ∧ Ended F a M S))) ∨
  (r ≠ 0 ∧ r ≠ 5 ∧ r = F.2 ∧ l = [] ∧ 0 < n ∧ M.out = [] ∧ Ended F a M S)
def TakePost (w0 : World) (c0 : Nat → Nat) (b0 g : Nat) (M : DM) (F : IS × Int) (a : List Int) (n : Nat) (e : Ending) (w' : World) : Prop :=
  ∃ A k cp r M' S' b l c, e = .returned (.tuple #[.slice A k cp, .int .i64 r]) ∧ OwnI .u8 w' b0 5 A k cp l ∧ InfM w' b0 g c M' S' ∧ DE b0 w0 c0 w' c ∧ (∀ q, blkOf A = some q → c q = 0) ∧ M.out ++ b = l ++ M'.out ∧ M'.out.length ≤ max M.out.length 70000 ∧ TakeE F (a ++ b) M' S' n l r
def TakeB (wq : World) (kk : Nat) (l : List Int) (v8 : Value) (wx : World) : Prop :=
  ∃ A cp, v8 = .slice A kk cp ∧ OwnI .u8 wx wq.heap.size 5 A kk cp l ∧ Below wq.heap.size wq wx
def TakeQ (w0 : World) (c0 : Nat → Nat) (b0 g : Nat) (M : DM) (S : DS) (A : Option Addr) (kk cp : Nat) (l q : List Int) (wx : World) : Prop :=
  ∃ c A3 n3 c3, InfM wx b0 g c { M with Ao := A3, no := n3, co := c3, out := q } S ∧ DE b0 w0 c0 wx c ∧ OwnI .u8 wx b0 5 A kk cp l ∧ ∀ q, blkOf A = some q → c q = 0
set_option maxRecDepth 100000 in
set_option maxHeartbeats 4000000 in
theorem dtake_any {F : IS × Int} {a : List Int} (h : InfS w0 c0 w b0 g M S) (hR : (∃ s, Alive F a M S s) ∨ Ended F a M S) (N : Int) (n : Nat) (hN : (n : Int) = max N 0) (hn : n ≤ 1000000000) (hlo : M.out.length ≤ 1000000000) :
    Calls Try.prog 12 #[.pointer (some ⟨g, 0, none⟩), .int .i64 N] w (TakePost w0 c0 b0 g M F a n) := by
  obtain ⟨i0, hi, hz0, hz1, hz2⟩ := info_parts rbyte_info
  have Hi := Lib.hid hi
  have Hz0 := Lib.hid hz0
  have Hz1 := Lib.hid hz1
  have Hz2 := Lib.hid hz2
  clear hi hz0 hz1 hz2
  have hinit : ∃ k, TakeR w0 c0 b0 g M F a n k (.int .i64 0) w := by
    rcases hR with ⟨s, hs⟩ | hs
    · exact ⟨s.mu + 1, M, S, [], 0, rfl, h, by simp, by omega, .inl ⟨rfl, s, by rw [List.append_nil]; exact hs, rfl⟩⟩
    · exact ⟨0, M, S, [], 0, rfl, h, by simp, by omega, .inr (.inr (by rw [List.append_nil]; exact hs))⟩
  obtain ⟨k0, hinit⟩ := hinit
  have HI := Lib.hid hinit
  have hws : w.heap.size = w.heap.size := rfl
  clear hR hinit h hws
  have hnI : (0 : Int) ≤ n ∧ (n : Int) ≤ 1000000000 := by omega
  have HN := Lib.hid hN
  clear hN
  go_enter Try.func12, Try.ntmps12
  go_upto_region 3 with fail
  go_cut [1] (fun s1 wx => s1 = .int .i64 n ∧ wx = w)
  case first =>
    go_wp2_with fail
    go_meet
    exact ⟨by rw [HN.out], rfl⟩
  case rest =>
    obtain ⟨rfl, rfl⟩ := hcut
    go_wp2_with fail
    go_loopg [6] k0 (TakeR w0 c0 b0 g M F a n)
    case atStart => exact HI.out
    case round =>
      clear HI
      obtain ⟨M1, S1, b, v, rfl, h, hout, hlen, hcs⟩ := hrel
      obtain ⟨-, -, -, k3, k4, -⟩ := h.cells
      have hno := h.out.1
      have hnoI : (0 : Int) ≤ M1.no ∧ (M1.no : Int) ≤ 2000000000 := by omega
      have HNO := Lib.hid hno
      obtain ⟨Bd, hBd⟩ : ∃ Bd, decide ((M1.no : Int) < n ∧ S1.err = 0 ∧ v = 0) = Bd := ⟨_, rfl⟩
      have HBd := Lib.hid hBd
      have HO := Lib.hid hout
      have HLN := Lib.hid hlen
      have HCS := Lib.hid hcs
      clear hBd hno hout hlen hcs
      go_upto_region 5 with fail
      go_cut [30] (fun s wx => s = .bool Bd ∧ wx = wr)
      case first =>
        by_cases h1 : (M1.no : Int) < n
        · by_cases h2 : S1.err = 0
          · by_cases h3 : v = 0
            · have hd : Hid (true = Bd) := by show _ = _; rw [← HBd.out]; exact (decide_eq_true ⟨h1, h2, h3⟩).symm
              rw [h2] at k4
              clear HBd HCS h2
              subst h3
              go_wp2_with fail
              go_meet
              exact ⟨congrArg Value.bool hd.out, rfl⟩
            · have hd : Hid (false = Bd) := by show _ = _; rw [← HBd.out]; exact (decide_eq_false fun h => h3 h.2.2).symm
              rw [h2] at k4
              have hvf : (v == 0) = false := by simpa using h3
              clear HBd HCS h2 h3
              go_wp2_with fail
              go_meet
              exact ⟨congrArg Value.bool hd.out, rfl⟩
          · have hd : Hid (false = Bd) := by show _ = _; rw [← HBd.out]; exact (decide_eq_false fun h => h2 h.2.1).symm
            have hvf : (S1.err == 0) = false := by simpa using h2
            clear HBd HCS h2
            go_wp2_with fail
            go_meet
            exact ⟨congrArg Value.bool hd.out, rfl⟩
        · have hd : Hid (false = Bd) := by show _ = _; rw [← HBd.out]; exact (decide_eq_false fun h => h1 h.1).symm
          clear HBd HCS
          go_wp2_with fail
          go_meet
          exact ⟨congrArg Value.bool hd.out, rfl⟩
      case rest =>
        obtain ⟨rfl, rfl⟩ := hcut
        by_cases hB : (M1.no : Int) < n ∧ S1.err = 0 ∧ v = 0
        · rw [← HBd.out, decide_eq_true hB]
          obtain ⟨hB1, hB2, hB3⟩ := hB
          subst hB3
          have hA : ∃ s, Alive F (a ++ b) M1 S1 s ∧ Hid (gk = s.mu + 1) := by
            rcases HCS.out with ⟨_, h1⟩ | ⟨h1, _⟩ | h1
            · exact h1
            · exact absurd h1 (by decide)
            · exact absurd (h1.err.symm.trans hB2) h1.ne.1
          obtain ⟨s, hA, hk⟩ := hA
          have hw1 : IntKind.i64.wrap ((n : Int) - (M1.no : Int)) = (n : Int) - (M1.no : Int) := IntWalk.i64_in _ (by omega)
          have hst := dstep_any h hA.live hA.ok ((n : Int) - (M1.no : Int)) (by omega) (by omega) (by rw [← HNO.out]; omega) (by have := hA.rem; omega)
          have HST := Lib.hid hst
          clear HBd HCS hst hB2
          go_wp2_with fail
          refine HST.out.mono ?_
          rintro e w5 ⟨M2, S2, s2, v2, b2, rfl, h2, he2, ho2, ha2, hb2, hc2⟩
          have hln2 : Hid (M2.out.length ≤ max M.out.length (n + 70000)) := by
            show _ ≤ _
            rw [ho2, List.length_append]
            have := HNO.out
            omega
          have hob : Hid (M2.out = M.out ++ (b ++ b2)) := by show _ = _; rw [ho2, HO.out, List.append_assoc]
          have hab : Hid (s2.all = a ++ (b ++ b2)) := by show _ = _; rw [ha2, hA.all, List.append_assoc]
          have HE2 := Lib.hid he2
          clear he2 ho2 ha2 hb2
          rcases hc2 with ⟨rfl, q1, q2, q3⟩ | ⟨rfl, q1, q2, q3⟩ | ⟨q1, q2, q3, q4⟩
          · have Q2 := Lib.hid q2
            clear q2
            go_wp2_with fail
            go_roundg (s2.mu + 1)
            case measure => have := hk.out; have := Q2.out; omega
            case rel => exact ⟨M2, S2, b ++ b2, 0, rfl, h2, hob.out, hln2.out, .inl ⟨rfl, s2, ⟨q3, hA.ok.steps q1, q1.fin_eq.trans hA.fin, hab.out, by have := q1.out; obtain ⟨_, _, h⟩ := this; have := hA.rem; omega⟩, rfl⟩⟩
          · have Q2 := Lib.hid q2
            clear q2
            go_wp2_with fail
            go_roundg 0
            case measure => have := hk.out; omega
            case rel => exact ⟨M2, S2, b ++ b2, 5, rfl, h2, hob.out, hln2.out, .inr (.inl ⟨rfl, s2, ⟨q3, hA.ok.steps q1, q1.fin_eq.trans hA.fin, hab.out, by have := q1.out; obtain ⟨_, _, h⟩ := this; have := hA.rem; omega⟩, Q2.out⟩)⟩
          · have hvf : (v2 == 0) = false := by simpa using q1
            have hv5 : (v2 == 5) = false := by simpa using q2
            have z4 := h2.cell.frozen' (i := 4) (by omega)
            have j4 := h2.cell.cell (i := 4) (by omega)
            have h3 := h2.put (i := 4) (by omega) (.int .i64 v2) { S2 with err := v2 } (all16 rfl rfl rfl rfl rfl rfl rfl rfl rfl rfl rfl rfl rfl rfl rfl rfl)
            have hfin : Hid (F = (s2, v2)) := by show _ = _; rw [← hA.fin]; exact q3
            have hEnd : Ended F (a ++ (b ++ b2)) M2 { S2 with err := v2 } := ⟨by rw [hfin.out], by rw [hfin.out]; exact ⟨q1, q2⟩, by rw [hfin.out]; exact hab.out, fun e => by
              rw [hfin.out] at e ⊢
              have hl := q4 e
              refine ⟨⟨hl.x, hl.st, hl.last, hl.left, hl.c0, hl.c1, hl.c2, hl.lens, hl.hd, hl.lt, hl.ds, hl.len, hl.tail, hl.rem, rfl⟩, ?_⟩
              have e8 : v2 = 8 := e
              obtain ⟨t3, ht3, ht4⟩ := IS.fin_steps s
              have : t3.step = (s2, v2) := by rw [ht4, q3]
              have h8 := IS.step_done (s := t3) (by rw [this]; exact e8)
              have : s2 = t3 := by rw [← h8.1, this]
              rw [this]
              exact hA.ok.steps ht3⟩
            clear q3 q4
            go_wp2_with fail
            go_roundg 0
            case measure => have := hk.out; omega
            case rel => exact ⟨M2, { S2 with err := v2 }, b ++ b2, v2, rfl, h3, hob.out, hln2.out, .inr (.inr hEnd)⟩
        · rw [← HBd.out, decide_eq_false hB]
          have hdone : Hid ((n ≤ M1.no ∧ ((∃ s, Alive F (a ++ b) M1 S1 s) ∨ Ended F (a ++ b) M1 S1)) ∨ (∃ s, Alive F (a ++ b) M1 S1 s ∧ s.step.2 = 5) ∨ Ended F (a ++ b) M1 S1) := by
            rcases HCS.out with ⟨h1, s, h2, _⟩ | ⟨_, h1⟩ | h1
            · exact .inl ⟨by have := h2.live.err; omega, .inl ⟨s, h2⟩⟩
            · exact .inr (.inl h1)
            · exact .inr (.inr h1)
          obtain ⟨kk, hkk⟩ : ∃ kk, min n M1.no = kk := ⟨_, rfl⟩
          have hkI : (0 : Int) ≤ kk ∧ (kk : Int) ≤ n ∧ (kk : Int) ≤ M1.no := by omega
          have HKK : Hid (min (n : Int) (M1.no : Int) = (kk : Int)) := by show _ = _; omega
          have HK2 : Hid (kk = n ∨ (kk < n ∧ kk = M1.no)) := by show _ ∨ _; omega
          clear HBd HCS hB hkk
          go_upto_region 9 with fail
          go_cut [7] (fun s wx => s = .int .i64 kk ∧ wx = wc)
          case first =>
            go_wp2_with fail
            go_meet
            exact ⟨by rw [HKK.out], rfl⟩
          case rest =>
            rename World => wq
            obtain ⟨rfl, rfl⟩ := hcut
            have hcap := h.out.2.capLe
            have hsl1 := run_slice_to (P := Try.prog) 22 5 Try.underlying22 Hi.out Hz1.out M1.Ao M1.no M1.co (j := kk) (by omega)
            have hsl2 := run_slice_from (P := Try.prog) 22 5 Try.underlying22 Hi.out Hz1.out M1.Ao M1.no M1.co (j := kk) (by omega)
            obtain ⟨c, hM, hD⟩ := h
            have hra : RdI .u8 (wq.alloc (.cells #[] 5)) wq.heap.size M1.Ao kk (M1.out.take kk) := (hM.out.rd.pre (by omega)).alloc (Nat.le_refl _) _
            have hbl := hM.lo
            have hgl0 := hM.cell.lt
            have hnat : kk ≤ 1000000000 ∧ kk ≤ M1.no ∧ M1.no ≤ 2000000000 := by omega
            go_upto_region 10 with fail
            go_cut [8] (fun s8 wx => TakeB wq kk (M1.out.take kk) s8 wx)
            case first =>
              go_wp2_with (at_builtin; (refine wpList_app .u8 wq.heap.size 5 i0 1 rfl (.tmp 57) (.tmp 63) _ rfl Try.underlying22 Hi.out Hz0.out Hz1.out Hz2.out rfl (OwnI.lit rfl [] _ (Nat.le_refl _) (by simp)) rfl hra (by omega) (by omega) (by simp) ?_)
                           intro A2 d2 w2 hown hg hat)
              go_meet
              rw [List.nil_append, Nat.zero_add] at hown
              exact ⟨A2, d2, rfl, hown, ((Below.refl _ wq).alloc (Nat.le_refl _) _).grown hg (by simp) (by simp [blkOf])⟩
            case rest =>
              obtain ⟨A8, d8, rfl, ho8, hb8⟩ := hcut
              clear k3 k4 hra hsl1
              have hM8 := hM.keeps hb8
              have hD8 := hD.step (c' := c) hM.lo (fun k hk => (hM.cb k hk).1) (Chg.of_below hb8) (fun _ _ => rfl)
              have k3 := hM8.cell.cell (i := 3) (by omega)
              rw [show dF M1 S1 3 = .slice M1.Ao M1.no M1.co from rfl] at k3
              have z3 := hM8.cell.frozen' (i := 3) (by omega)
              have hra : RdI .u8 (wc.alloc (.cells #[] 5)) wc.heap.size (cutA M1.Ao M1.co kk) (M1.no - kk) (M1.out.drop kk) := (hM8.out.rd.cutA (by omega) hcap).alloc (Nat.le_refl _) _
              have hgl := hM8.cell.lt
              have hq8 : Hid (∀ q, blkOf A8 = some q → c q = 0 ∧ q < wc.heap.size ∧ q ≠ g) := fun q hq => by
                have h1 := ho8.2.lt hq
                refine ⟨?_, h1.2, ?_⟩
                · by_cases e : c q = 0
                  · exact e
                  · have := (hM.cb q e).2; omega
                · have := hM.cell.lt; omega
              go_upto_region 11 with fail
              go_cut [] (fun wx => TakeQ w0 c0 b0 g M1 S1 A8 kk d8 (M1.out.take kk) (M1.out.drop kk) wx)
              case first =>
                have hcl := hM8.cell
                go_wp2_with (at_builtin; (refine wpList_app .u8 wc.heap.size 5 i0 1 rfl (.tmp 66) (.tmp 72) _ rfl Try.underlying22 Hi.out Hz0.out Hz1.out Hz2.out rfl (OwnI.lit rfl [] _ (Nat.le_refl _) (by simp)) rfl hra (by omega) (by omega) (by simp) ?_)
                             intro A2 d2 w2 hown hg hat
                             have har2 := (hcl.alloc (.cells #[] 5)).grown hg (by simp [blkOf]; omega)
                             have x3 := har2.cell (i := 3) (by omega)
                             have y3 := har2.frozen' (i := 3) (by omega))
                go_meet
                rw [List.nil_append, Nat.zero_add] at hown
                have hb11 : Below wc.heap.size wc w2 := ((Below.refl _ wc).alloc (Nat.le_refl _) _).grown hg (by simp) (by simp [blkOf])
                have hne2 : blkOf A2 ≠ some g := fun e => by have := (hown.2.lt e).1; omega
                have hcc : Chg wc (w2.setCell ⟨g, 3, none⟩ (.slice A2 (M1.no - kk) d2)) (fun k => k = g ∨ blkOf M1.Ao = some k) := ((Chg.of_below hb11).setCell (p := ⟨g, 3, none⟩) (.inl (.inl rfl)) _)
                have hM11 := hM8.outs (S' := S1) (l' := M1.out.drop kk) (A' := A2) (n' := M1.no - kk) (c' := d2) hcc ((har2.set_ (i := 3) (by omega) _).congr (all16 rfl rfl rfl rfl rfl rfl rfl rfl rfl rfl rfl rfl rfl rfl rfl rfl)) ((hown.far (p := ⟨g, 3, none⟩) hne2 _).more (Nat.le_trans hbl hb8.size)) (fun k hk => .inr (hown.2.lt hk).1)
                refine ⟨colour c wc.heap.size (fun k => blkOf A2 = some k) 4, A2, M1.no - kk, d2, hM11, ?_, ?_, ?_⟩
                · exact hD8.step hM8.lo (fun k hk => (hM8.cb k hk).1) (hcc.more fun k hk => by
                    rcases hk with rfl | hk
                    · rw [hM8.cg]; decide
                    · rw [hM8.co k hk]; decide) (fun k hk => colour_old hk)
                · exact ((ho8.keeps hb11).far (p := ⟨g, 3, none⟩) (fun e => (hq8.out _ e).2.2 rfl) _).more hbl
                · intro q hq
                  rw [colour_old (hq8.out q hq).2.1]
                  exact (hq8.out q hq).1
              case rest =>
                obtain ⟨c11, A3, n3, c3, hM11, hD11, ho11, hq11⟩ := hcut
                have hlt : Hid ((M1.out.take kk).length = kk) := by show _ = _; rw [List.length_take, ← HNO.out]; omega
                have hcat : Hid (M.out ++ b = M1.out.take kk ++ M1.out.drop kk) := by show _ = _; rw [List.take_append_drop, HO.out]
                have hld : Hid ((M1.out.drop kk).length ≤ max M.out.length 70000) := by
                  show _ ≤ _
                  rw [List.length_drop]
                  have := HLN.out; have := HK2.out; have := HNO.out
                  omega
                have j4 := hM11.cell.cell (i := 4) (by omega)
                rw [show dF { M1 with Ao := A3, no := n3, co := c3, out := M1.out.drop kk } S1 4 = .int .i64 S1.err from rfl] at j4
                have hTA : ∀ s, Alive F (a ++ b) M1 S1 s → Alive F (a ++ b) { M1 with Ao := A3, no := n3, co := c3, out := M1.out.drop kk } S1 s := fun s h => ⟨⟨h.live.x, h.live.st, h.live.last, h.live.left, h.live.c0, h.live.c1, h.live.c2, h.live.lens, h.live.hd, h.live.lt, h.live.ds, h.live.len, h.live.tail, h.live.rem, h.live.err⟩, h.ok, h.fin, h.all, h.rem⟩
                have hTE : Ended F (a ++ b) M1 S1 → Ended F (a ++ b) { M1 with Ao := A3, no := n3, co := c3, out := M1.out.drop kk } S1 := fun h => ⟨h.err, h.ne, h.all, fun e => by
                  obtain ⟨h1, h2⟩ := h.at8 e
                  exact ⟨⟨h1.x, h1.st, h1.last, h1.left, h1.c0, h1.c1, h1.c2, h1.lens, h1.hd, h1.lt, h1.ds, h1.len, h1.tail, h1.rem, h1.err⟩, h2⟩⟩
                have HTA := Lib.hid hTA
                have HTE := Lib.hid hTE
                clear hTA hTE k3 z3 hra hsl2
                have hcs : kk = n ∨ ((kk : Int) < n ∧ kk = M1.no) := by have := HK2.out; omega
                rcases hcs with h1 | ⟨h1, h2⟩
                · subst h1
                  go_wp2_with fail
                  go_ret2
                  refine ⟨A8, _, d8, 0, _, S1, b, _, c11, rfl, ho11, hM11, hD11, hq11, hcat.out, hld.out, .inl ⟨rfl, hlt.out, ?_⟩⟩
                  rcases hdone.out with ⟨_, ⟨s, h2⟩ | h2⟩ | ⟨s, h2, _⟩ | h2
                  · exact .inl ⟨s, HTA.out s h2⟩
                  · exact .inr (HTE.out h2)
                  · exact .inl ⟨s, HTA.out s h2⟩
                  · exact .inr (HTE.out h2)
                · have hnf : ((kk : Int) == (n : Int)) = false := by simp; omega
                  have hdz : Hid (M1.out.drop kk = []) := by show _ = _; rw [List.drop_eq_nil_iff, ← HNO.out]; omega
                  have hdn : (∃ s, Alive F (a ++ b) M1 S1 s ∧ s.step.2 = 5) ∨ Ended F (a ++ b) M1 S1 := by
                    rcases hdone.out with ⟨h3, _⟩ | h3 | h3
                    · omega
                    · exact .inl h3
                    · exact .inr h3
                  have hkn : kk < n := by omega
                  clear h2
                  rcases hdn with ⟨s, hA, hA5⟩ | hE
                  · have he0 := hA.live.err
                    rw [he0] at j4
                    have HA5 := Lib.hid hA5
                    clear he0 hA5
                    go_wp2_with fail
                    go_ret2
                    exact ⟨A8, _, d8, 5, _, S1, b, _, c11, rfl, ho11, hM11, hD11, hq11, hcat.out, hld.out, .inr (.inl ⟨rfl, by rw [hlt.out]; exact hkn, hdz.out, .inl ⟨s, HTA.out s hA, HA5.out⟩⟩)⟩
                  · obtain ⟨hne0, hne5⟩ := hE.ne
                    rw [← hE.err] at hne0 hne5
                    have hef : (S1.err == 0) = false := by simpa using hne0
                    by_cases hk0 : (0 : Int) < kk
                    · go_wp2_with fail
                      go_ret2
                      exact ⟨A8, _, d8, 5, _, S1, b, _, c11, rfl, ho11, hM11, hD11, hq11, hcat.out, hld.out, .inr (.inl ⟨rfl, by rw [hlt.out]; exact hkn, hdz.out, .inr ⟨by rw [hlt.out]; omega, HTE.out hE⟩⟩)⟩
                    · have hkz : kk = 0 := by omega
                      have hcat0 : Hid (M.out ++ b = [] ++ M1.out.drop kk) := by show _ = _; rw [hcat.out, hkz]; rfl
                      have HE0 := Lib.hid hne0
                      have HE5 := Lib.hid hne5
                      clear hkz
                      go_wp2_with fail
                      go_region
                      all_goals
                        go_wp2_with fail
                        go_ret2
                        exact ⟨none, 0, 0, S1.err, _, S1, b, [], c11, rfl, OwnI.nil_, hM11.keeps (Below.refl _ _).drew, hD11.step hM11.lo (fun k hk => (hM11.cb k hk).1) (Chg.of_below (Below.refl _ _).drew) (fun _ _ => rfl), fun q hq => by simp [blkOf] at hq, hcat0.out, hld.out, .inr (.inr ⟨HE0.out, HE5.out, hE.err, rfl, by omega, hdz.out, HTE.out hE⟩)⟩
end
end Go.Proofs.Ytoegpffdbfkcpaa

/-
  The walks of the decoder's Rest and Whole.
-/
namespace Go.Proofs.Ytoegpffdbfkcpaa
open Go.RowKit
set_option linter.unusedVariables false
section
variable {w w' w0 w2 : World} {b0 g : Nat} {c c0 : Nat → Nat} {M M' : DM} {S S' : DS} {s t t' : IS} {b : List Int} {v : Int}
/-- where bits lack nothing turns -/
theorem IS.step_lack (h : s.step.2 = 5) : s.step.1 = s := by
  unfold IS.step at h ⊢
  have hem : ∀ (s : IS) b, (s.emit b).2 ≠ 5 := fun s b => by unfold IS.emit; simp only; split <;> decide
  by_cases h0 : s.st = 0
  · rw [if_pos h0] at h ⊢; unfold IS.block at h ⊢; revert h; repeat' split
    all_goals simp
  rw [if_neg h0] at h ⊢
  by_cases h1 : s.st = 1
  · rw [if_pos h1] at h ⊢; unfold IS.size at h ⊢; revert h; repeat' split
    all_goals simp
  rw [if_neg h1] at h ⊢
  by_cases h2 : s.st = 2
  · rw [if_pos h2] at h ⊢; unfold IS.stored at h ⊢; revert h; repeat' split
    · simp
    · simp
    · intro h; exact absurd h (hem _ _)
  rw [if_neg h2] at h ⊢
  by_cases h3 : s.st = 3
  · rw [if_pos h3] at h ⊢; unfold IS.sizes at h ⊢; revert h; repeat' split
    all_goals simp
  rw [if_neg h3] at h ⊢
  by_cases h4 : s.st = 4
  · rw [if_pos h4] at h ⊢; unfold IS.heads at h ⊢; revert h; repeat' split
    all_goals simp
  rw [if_neg h4] at h ⊢
  by_cases h5 : s.st = 5
  · rw [if_pos h5] at h ⊢; unfold IS.lengths IS.length IS.repeat_ at h ⊢
    revert h; repeat' split
    all_goals simp
  rw [if_neg h5] at h ⊢
  by_cases h6 : s.st = 6
  · rw [if_pos h6] at h ⊢; unfold IS.token at h ⊢
    revert h; repeat' split
    all_goals first
      | (intro h; exact absurd h (hem _ _))
      | simp
  rw [if_neg h6] at h ⊢
  by_cases h7 : s.st = 7
  · rw [if_pos h7] at h ⊢; unfold IS.dist IS.text at h ⊢
    revert h; repeat' split
    all_goals first
      | (intro h; exact absurd h (hem _ _))
      | simp
  rw [if_neg h7] at h ⊢
/-- blocks turn that are nobody's -/
theorem InfM.aside {F : Nat → Prop} (h : InfM w b0 g c M S) (hc : Chg w w' F) (hF : ∀ k, F k → c k = 0) : InfM w' b0 g c M S :=
  ⟨hc.ar h.cell (fun e => by have := hF g e; have := h.cg; omega), h.cg, h.rdr.chg hc (fun k hk e => by have := hF k e; have := h.cr k hk; omega), h.cr, h.win.chg hc (fun k hk e => by have := hF k e; have := h.cw k hk; omega), h.cw,
    hc.ownI h.out (fun k hk e => by have := hF k e; have := h.co k hk; omega), h.co, hc.ownI h.lens (fun k hk e => by have := hF k e; have := h.cl k hk; omega), h.cl,
    fun l hl => (h.th l hl).chg hc (fun k hk e => by have := hF k hk; omega) (fun _ _ => rfl), fun l hl => (h.tl l hl).chg hc (fun k hk e => by have := hF k hk; omega) (fun _ _ => rfl), fun l hl => (h.td l hl).chg hc (fun k hk e => by have := hF k hk; omega) (fun _ _ => rfl),
    fun k hk => ⟨(h.cb k hk).1, Nat.lt_of_lt_of_le (h.cb k hk).2 hc.size⟩, h.bB⟩
theorem drest_other (h : InfS w0 c0 w b0 g M S) (he : S.err ≠ 8) :
    Calls Try.prog 13 #[.pointer (some ⟨g, 0, none⟩)] w fun e w' => e = .returned (.slice none 0 0) ∧ w = w' := by
  obtain ⟨-, -, -, -, k4, -⟩ := h.cells
  have hef : (S.err == 8) = false := by simpa using he
  go_enter Try.func13, Try.ntmps13
  go_wp2_with fail
  go_ret
  exact ⟨rfl, rfl⟩
def RestPost (w w0 : World) (c0 : Nat → Nat) (b0 g : Nat) (M : DM) (S : DS) (e : Ending) (w' : World) : Prop :=
  ∃ A k cp, e = .returned (.slice A k cp) ∧ OwnI .u8 w' w.heap.size 5 A k cp (M.B.drop (M.a / 8)) ∧ InfS w0 c0 w' b0 g { M with a := 8 * M.B.length } S
set_option maxHeartbeats 2000000 in
theorem drest_done (h : InfS w0 c0 w b0 g M S) (he : S.err = 8) (hev : M.a % 8 = 0) :
    Calls Try.prog 13 #[.pointer (some ⟨g, 0, none⟩)] w (RestPost w w0 c0 b0 g M S) := by
  obtain ⟨k0, -, -, -, k4, -⟩ := h.cells
  rw [he] at k4
  have hn := h.rdr.n_eq
  have hle := h.rdr.le
  have hbig := h.big
  obtain ⟨j, hj⟩ : ∃ j, M.a = 8 * j := ⟨M.a / 8, by omega⟩
  have hleft : ∀ W, InfS w0 c0 W b0 g M S → Calls Try.prog 29 #[.pointer (some ⟨M.gi, 0, none⟩)] W fun e w' => e = .returned (.int .i64 (8 * ((M.B.length - j : Nat) : Int))) ∧ InfS w0 c0 w' b0 g M S ∧ w'.cell? ⟨g, 0, none⟩ = some (.pointer (some ⟨M.gi, 0, none⟩)) ∧ W.heap.size ≤ w'.heap.size := fun W hW => by
    refine (rdrLeft_any W _ _ _ _ _ _ _ hW.rdr (Nat.le_trans hW.big (by omega))).mono ?_
    rintro e w1 ⟨rfl, q, rfl⟩
    refine ⟨by rw [show 8 * M.ni - M.a = 8 * (M.B.length - j) by omega]; simp, hW.drewN q, ?_⟩
    obtain ⟨k, -⟩ := (hW.drewN q).cells
    exact ⟨k, Nat.le_refl _⟩
  have hread := fun W (hW : InfS w0 c0 W b0 g M S) => rdrRead_any W _ _ _ _ _ _ _ hW.rdr (Nat.le_trans hW.big (by omega)) ((M.B.length - j : Nat) : Int) (M.B.length - j) (by rw [hn]; omega)
  have HLEFT := Lib.hid hleft
  have HREAD := Lib.hid hread
  obtain ⟨K, hK⟩ : ∃ K, M.B.length - j = K := ⟨_, rfl⟩
  have hKI : (0 : Int) ≤ K ∧ (K : Int) ≤ 100000000000 := by omega
  have hwK : IntKind.i64.wrap (K : Int) = (K : Int) := IntWalk.i64_in _ (by omega)
  have hfin : Hid ((M.B.drop ((M.a + 7) / 8)).take K = M.B.drop (M.a / 8) ∧ (M.a + 7) / 8 * 8 + 8 * K = 8 * M.B.length) := by
    refine ⟨?_, by omega⟩
    rw [show (M.a + 7) / 8 = M.a / 8 by omega, List.take_of_length_le (by rw [List.length_drop]; omega)]
  rw [hK] at HLEFT HREAD
  clear hleft hread hn hle hj hK he hev
  go_enter Try.func13, Try.ntmps13
  go_wp2_with fail
  go_region_with
    (first
      | (go_at_call 29; (refine (HLEFT.out _ (by first | exact h.drew | exact h)).mono ?_); rintro e w5 ⟨rfl, hh5, hk5, hhs5⟩)
      | (go_at_call 28; (refine (HREAD.out _ (by first | exact hh5 | exact hh5.drew)).mono ?_); rintro e w6 ⟨A6, c6, rfl, ho6, hr6, hc6⟩))
  all_goals
    rw [hfin.out.1] at ho6
    rw [hfin.out.2] at hr6
    have h6 := hh5.moved hc6 hr6
    go_wp2_with fail
    go_ret
    exact ⟨A6, K, c6, rfl, ho6.more (by show w.heap.size ≤ w5.heap.size; exact hhs5), h6⟩
end
end Go.Proofs.Ytoegpffdbfkcpaa

/-
  The walk of Whole.
-/
namespace Go.Proofs.Ytoegpffdbfkcpaa
open Go.RowKit
set_option linter.unusedVariables false
section
variable {w w' w0 w2 : World} {b0 g : Nat} {c c0 : Nat → Nat} {M M' : DM} {S S' : DS} {s t t' : IS} {b : List Int} {v : Int}
/-- the error that a whole stream ends with -/
def endE (F : IS × Int) : Int := if F.2 = 8 then 0 else F.2
def WholePost (w : World) (F : IS × Int) (e : Ending) (w' : World) : Prop :=
  ∃ A n cp A2 n2 c2 R, e = .returned (.tuple #[.slice A n cp, .slice A2 n2 c2, .int .i64 (endE F)]) ∧ OwnI .u8 w' w.heap.size 5 A n cp F.1.all ∧ RdI .u8 w' w'.heap.size A2 n2 R ∧ (F.2 = 8 → bts R = F.1.x) ∧ (F.2 ≠ 8 → R = []) ∧ (∀ x ∈ R, 0 ≤ x ∧ x < 256) ∧ Below w.heap.size w w'
/-- ahead of a round: l is in the result's hands -/
def WhR (w : World) (g : Nat) (F : IS × Int) (k : Nat) (v4 : Value) (wr : World) : Prop :=
  ∃ A n cp l M S a c, v4 = .slice A n cp ∧ OwnI .u8 wr w.heap.size 5 A n cp l ∧ InfM wr w.heap.size g c M S ∧ (∀ q, blkOf A = some q → c q = 0) ∧ a = l ++ M.out ∧ ((∃ s, Alive F a M S s) ∨ Ended F a M S) ∧ M.out.length ≤ 70000 ∧ Hid (k = F.1.all.length - l.length) ∧ Below w.heap.size w wr
/-- behind the append of what Take gave -/
def WhS (w : World) (A1 : Option Addr) (n1 k5 : Nat) (l l5 : List Int) (c5 : Nat → Nat) (g : Nat) (M5 : DM) (S5 : DS) (v4 : Value) (wx : World) : Prop :=
  ∃ A2 n2 d2, v4 = .slice A2 n2 d2 ∧ OwnI .u8 wx w.heap.size 5 A2 n2 d2 (l ++ l5) ∧ InfM wx w.heap.size g c5 M5 S5 ∧ (∀ q, blkOf A2 = some q → c5 q = 0) ∧ Below w.heap.size w wx
theorem decr_len {F : IS × Int} {a : List Int} (h : (∃ s, Alive F a M S s) ∨ Ended F a M S) : a.length ≤ F.1.all.length := by
  rcases h with ⟨s, h⟩ | h
  · obtain ⟨b, h1, _⟩ := IS.fin_out s
    rw [h.fin] at h1
    rw [h1, List.length_append, h.all]
    omega
  · rw [h.all]; exact Nat.le_refl _
theorem alive_end {F : IS × Int} {a : List Int} (h : Alive F a M S s) (h5 : s.step.2 = 5) : F.2 = 5 ∧ F.1.all = a := by
  have e := IS.fin_stop (s := s) (by rw [h5]; decide)
  rw [h.fin] at e
  rw [e]
  exact ⟨h5, by rw [IS.step_lack h5, h.all]⟩
theorem fin8 (h : s.Ok) (e : s.fin.2 = 8) : s.fin.1.st = 8 := by
  obtain ⟨t, h1, h2⟩ := IS.fin_steps s
  rw [← h2] at e ⊢
  obtain ⟨h3, a0, a1, a2, a3, a4, a5, a6, a7⟩ := IS.step_done e
  rw [h3]
  have := (h.steps h1).st8
  omega
theorem takeE_len {F : IS × Int} {a : List Int} {n : Nat} {l : List Int} {r : Int} (h : TakeE F a M S n l r) : l.length ≤ n := by
  rcases h with ⟨_, h, _⟩ | ⟨_, h, _⟩ | ⟨_, _, _, h, _⟩
  · omega
  · omega
  · rw [h]; simp
set_option maxRecDepth 100000 in
set_option maxHeartbeats 4000000 in
theorem whole_any (w : World) (Bd : Nat) (A : Option Addr) (n cp : Nat) (b : List Int) (hr : RdI .u8 w Bd A n b) (hBd : Bd ≤ w.heap.size) (hby : ∀ x ∈ b, 0 ≤ x ∧ x < 256) (hlen : b.length ≤ 10000000000) (most : Int) (m : Nat) (hm : (m : Int) = max most 0) (hmb : m ≤ 1000000000) (F : IS × Int) (hF : (start (bts b) m).fin = F) :
    Calls Try.prog 9 #[.slice A n cp, .int .i64 most] w (WholePost w F) := by
  obtain ⟨i0, hi, hz0, hz1, hz2⟩ := info_parts rbyte_info
  have Hi := Lib.hid hi
  have Hz0 := Lib.hid hz0
  have Hz1 := Lib.hid hz1
  have Hz2 := Lib.hid hz2
  have HM := Lib.hid hm
  have HF := Lib.hid hF
  have hFl : F.1.all.length ≤ 1000000000 := by
    obtain ⟨b', h1, h2⟩ := IS.fin_out (start (bts b) m)
    rw [hF] at h1 h2
    rw [h1]
    have : (start (bts b) m).all = [] := rfl
    have h3 : (start (bts b) m).rem = m := rfl
    rw [this, List.nil_append]
    omega
  clear hi hz0 hz1 hz2 hm hF
  go_enter Try.func9, Try.ntmps9
  go_wp2_with fail
  refine (dnew_any _ most m HM.out).mono ?_
  rintro e w1 ⟨g, c, M, S, rfl, hM, hb1, hMB, hMa, hMo, hL⟩
  have HMB := Lib.hid hMB
  have HMA := Lib.hid hMa
  have HMO := Lib.hid hMo
  clear hMB hMa hMo
  go_wp2_with fail
  refine (dfeed_any hM.refl Bd n cp A b (hr.below (hb1.mono hBd)) (Nat.le_trans hBd hb1.size) hby (by rw [HMB.out]; simp; omega)).mono ?_
  rintro e w2 ⟨A', n', c', rfl, c2, hM2, hD2⟩
  have hinit : ∃ k, WhR w g F k (.slice none 0 0) w2 := by
    refine ⟨_, none, 0, 0, [], _, S, [], c2, rfl, OwnI.nil_, hM2, fun q hq => by simp [blkOf] at hq, by show [] = [] ++ M.out; rw [HMO.out]; rfl, .inl ⟨start (bts b) m, ⟨?_, hL.st, hL.last, hL.left, hL.c0, hL.c1, hL.c2, hL.lens, hL.hd, hL.lt, hL.ds, hL.len, hL.tail, hL.rem, hL.err⟩, .start (Bit.bts b) m, HF.out, rfl, by show m ≤ _; omega⟩, by show M.out.length ≤ _; rw [HMO.out]; simp, rfl, hb1.trans hD2.1⟩
    show rb (M.B.drop (M.a / 8) ++ b) (M.a % 8) = bts b
    rw [HMB.out, HMA.out]
    rfl
  obtain ⟨k0, hinit⟩ := hinit
  have HI := Lib.hid hinit
  clear hinit hM2 hD2 hL hM HMB HMA HMO
  go_wp2_with fail
  go_loopg [4] k0 (WhR w g F)
  case atStart => exact HI.out
  case round =>
    clear HI
    obtain ⟨A1, n1, cp1, l, M1, S1, a, cc, rfl, ho, hM, hq, ha, hR, hml, hk, hbw⟩ := hrel
    have hnl := ho.1
    have hal := decr_len hR
    have htk := dtake_any hM.refl hR 16384 16384 (by decide) (by decide) (by omega)
    have HTK := Lib.hid htk
    have HA := Lib.hid ha
    have hlF : l.length ≤ 1000000000 := by rw [ha, List.length_append] at hal; omega
    have HNL := Lib.hid hnl
    have hn1 : n1 ≤ 1000000000 := by omega
    clear htk ha hR hal hnl
    go_wp2_with fail
    refine HTK.out.mono ?_
    rintro e w5 ⟨A5, k5, cp5, r, M5, S5, b5, l5, c5, rfl, ho5, hM5, hD5, hq5, hcat, hml5, hE⟩
    have hl5 := takeE_len hE
    have hk5 := ho5.1
    have hk5b : k5 ≤ 16384 := by omega
    have hoL := hD5.2.1.ownI ho (fun q h1 h2 => h2 (hq q h1))
    have hqc : Hid (∀ q, blkOf A1 = some q → c5 q = 0) := fun q h1 => by rw [hD5.2.2 q (ho.2.lt h1).2]; exact hq q h1
    have hb5 := hbw.trans hD5.1
    have hlo5 := hM5.lo
    have hr5 := ho5.rd
    have HE := Lib.hid hE
    have HCAT := Lib.hid hcat
    have HL5 := Lib.hid hml5
    have hK5 := Lib.hid hk5
    clear hE hcat hml5 hk5 ho5 hq5
    go_upto_region 4 with fail
    go_cut [4] (fun s4 wx => WhS w A1 n1 k5 l l5 c5 g M5 S5 s4 wx)
    case first =>
      go_wp2_with (at_builtin; (refine wpList_app .u8 w.heap.size 5 i0 1 rfl (.tmp 20) (.tmp 21) _ rfl Try.underlying22 Hi.out Hz0.out Hz1.out Hz2.out rfl hoL rfl hr5 (by omega) (by omega) hlo5 ?_)
                   intro A2 d2 w6 hown hg hat)
      go_meet
      refine ⟨A2, n1 + k5, d2, rfl, hown, hM5.aside ((Chg.refl w5 (fun q => blkOf A1 = some q)).grown hg (fun k e => .inl e)) (fun k hk => hqc.out k hk), fun q h1 => ?_, below_grown hb5 hg hlo5 (fun q h1 => (hoL.2.lt h1).1)⟩
      rcases hat with e | e
      · exact hqc.out q (by rw [← e]; exact h1)
      · rw [e] at h1
        injection h1 with h1
        by_cases e2 : c5 q = 0
        · exact e2
        · have := (hM5.cb q e2).2; omega
    case rest =>
      obtain ⟨A2, n2, d2, rfl, hown, hM6, hq6, hb6⟩ := hcut
      have ha6 : Hid (a ++ b5 = (l ++ l5) ++ M5.out) := by show _ = _; rw [HA.out, List.append_assoc, HCAT.out, List.append_assoc]
      have k4 := hM6.cell.cell (i := 4) (by omega)
      rw [show dF M5 S5 4 = .int .i64 S5.err from rfl] at k4
      have hml6 : Hid (M5.out.length ≤ 70000) := by show _ ≤ _; have := HL5.out; omega
      have hcs := HE.out
      unfold TakeE at hcs
      clear HE hM5 hD5 hM ho hq hoL hr5 hlo5 hb5 hbw
      rcases hcs with ⟨rfl, h1, h2⟩ | ⟨rfl, h1, h2, ⟨s, h3, h4⟩ | ⟨h3, h4⟩⟩ | ⟨h0, h5, h6, h7, h8, h9, h10⟩
      · have hal := decr_len h2
        rw [ha6.out, List.length_append, List.length_append] at hal
        have H1 := Lib.hid h1
        clear h1
        go_wp2_with fail
        go_roundg (F.1.all.length - (l ++ l5).length)
        case measure => rw [List.length_append]; have := hk.out; have := H1.out; omega
        case rel => exact ⟨A2, n2, d2, l ++ l5, M5, S5, a ++ b5, c5, rfl, hown, hM6, hq6, ha6.out, h2, hml6.out, rfl, hb6⟩
      · obtain ⟨e1, e2⟩ := alive_end h3 h4
        have he0 := h3.live.err
        rw [he0] at k4
        have hfin : WholePost w F (.returned (.tuple #[.slice A2 n2 d2, .slice none 0 0, .int .i64 5])) wc := by
          refine ⟨A2, n2, d2, none, 0, 0, [], ?_, ?_, ⟨rfl, Rd.nil_⟩, fun e => by rw [e1] at e; simp at e, fun _ => rfl, fun x hx => (by simp at hx), hb6⟩
          · unfold endE
            rw [e1]; rfl
          · rw [e2, ha6.out, h2, List.append_nil]
            exact hown
        have HFIN := Lib.hid hfin
        clear hfin he0 e1 e2 h4 h2
        go_wp2_with fail
        go_returns
        exact HFIN.out
      · have hal := decr_len (.inr h4)
        rw [ha6.out, List.length_append, List.length_append] at hal
        obtain ⟨hne0, hne5⟩ := h4.ne
        rw [← h4.err] at hne0 hne5
        have hef : (S5.err == 0) = false := by simpa using hne0
        clear h2
        go_wp2_with fail
        go_roundg (F.1.all.length - (l ++ l5).length)
        case measure => rw [List.length_append]; have := hk.out; omega
        case rel => exact ⟨A2, n2, d2, l ++ l5, M5, S5, a ++ b5, c5, rfl, hown, hM6, hq6, ha6.out, .inr h4, hml6.out, rfl, hb6⟩
      · have hr0 : (r == 0) = false := by simpa using h0
        have hr5 : (r == 5) = false := by simpa using h5
        have hall : Hid (F.1.all = l ++ l5) := by show _ = _; rw [h10.all, ha6.out, h9, List.append_nil]
        by_cases hr8 : r = 8
        · have h8F : F.2 = 8 := by rw [← h6]; exact hr8
          have he8 : S5.err = 8 := by rw [h10.err]; exact h8F
          obtain ⟨hL8, hO8⟩ := h10.at8 h8F
          have hst8 := fin8 (s := start (bts b) m) (.start (Bit.bts b) m) (by rw [HF.out]; exact h8F)
          rw [HF.out] at hst8
          have hev := hO8.even (.inr (.inr hst8))
          have hx8 := hL8.x
          rw [← hx8, rb_length] at hev
          have hle8 := hM6.rdr.le
          have hrs := drest_done hM6.refl he8 (by omega)
          have hbx : Hid (bts (M5.B.drop (M5.a / 8)) = F.1.x) := by
            show _ = _
            rw [bts_drop, ← hx8]
            unfold rb
            rw [show 8 * (M5.a / 8) = M5.a by omega]
          have HRS := Lib.hid hrs
          have H8 := Lib.hid h8F
          clear hev hx8 hle8 hrs h8F he8 hst8 h6 h9 h7
          subst hr8
          go_wp2_with fail
          refine HRS.out.mono ?_
          rintro e w7 ⟨A7, k7, c7, rfl, ho7, c8, hM8, hD8⟩
          go_wp2_with fail
          go_returns
          refine ⟨A2, n2, d2, A7, k7, c7, M5.B.drop (M5.a / 8), ?_, ?_, ?_, fun _ => hbx.out, fun e => absurd H8.out e, fun x hx => hM6.rdr.by_ x (List.mem_of_mem_drop hx), hb6.trans hD8.1⟩
          · unfold endE
            rw [H8.out]; rfl
          · rw [hall.out]
            exact hD8.2.1.ownI hown (fun q h1 h2 => h2 (hq6 q h1))
          · exact ho7.rd
        · have hr8f : (r == 8) = false := by simpa using hr8
          have hfin : WholePost w F (.returned (.tuple #[.slice A2 n2 d2, .slice none 0 0, .int .i64 r])) wc := by
            refine ⟨A2, n2, d2, none, 0, 0, [], ?_, ?_, ⟨rfl, Rd.nil_⟩, fun e => absurd (h6.trans e) hr8, fun _ => rfl, fun x hx => (by simp at hx), hb6⟩
            · unfold endE
              rw [if_neg (by rw [← h6]; exact hr8), h6]
            · rw [hall.out]
              exact hown
          have HFIN := Lib.hid hfin
          clear hfin h6 h9 h7
          go_wp2_with fail
          go_returns
          exact HFIN.out
end
end Go.Proofs.Ytoegpffdbfkcpaa

/-
  The walk of the reference's Same.
-/
namespace Go.Proofs.Ytoegpffdbfkcpaa
open Go.RowKit
set_option linter.unusedVariables false

theorem same_any (w : World) (B n c m d : Nat) (A C : Option Addr) (l b : List Int) (hl : RdI .u8 w B A n l) (hb : RdI .u8 w B C m b) (hn : (n : Int) ≤ 1000000000) (he : l = b) :
    Calls Try.prog 10 #[.slice A n c, .slice C m d] w fun e w' => e = .returned (.bool true) ∧ ∃ q, w' = w.drewN q := by
  have hnm : n = m := by rw [hl.1, hb.1, he]
  subst hnm
  subst he
  go_enter Try.func10, Try.ntmps10
  go_wp2
  go_loopw [5] (fun i wr => ∃ k q : Nat, k ≤ n ∧ i = .int .i64 k ∧ wr = w.drewN q) (fun i _ => n - (intOf i).toNat)
  case atStart => exact ⟨0, 0, Nat.zero_le _, rfl, rfl⟩
  case round =>
    obtain ⟨k, q, hk, rfl, rfl⟩ := hrel
    by_cases hlt : k < n
    · obtain ⟨a1, rfl, _, hc⟩ := hl.at_ hlt
      obtain ⟨a2, rfl, _, hc2⟩ := hb.at_ hlt
      have hk0 : (0 : Int) ≤ k ∧ (k : Int) < n := by omega
      obtain ⟨v, hv⟩ : ∃ v : Int, ix l k = v := ⟨_, rfl⟩
      rw [hv] at hc hc2
      clear hv
      go_wp2
      go_quiet (fail)
      go_wp2
      go_roundw
      case rel => exact ⟨k + 1, _, by omega, by go_num, rfl⟩
      case measure => simp [intOf]; omega
    · obtain rfl : n = k := by omega
      go_wp2
      go_ret
      exact ⟨rfl, _, rfl⟩
end Go.Proofs.Ytoegpffdbfkcpaa

/-
  The walk of the statements' own answers, layer 12.
-/
namespace Go.Proofs.Ytoegpffdbfkcpaa
open Go.RowKit
set_option linter.unusedVariables false
theorem fin12a : ∃ F, (start (bts [1, 1, 0, 254, 255, 7, 9]) 5).fin = F ∧ F.2 = 8 ∧ F.1.all = [7] ∧ F.1.x = bts [9] :=
  ⟨_, (IS.fin_run (n := 20) (by decide +kernel)).symm, by decide +kernel, by decide +kernel, by decide +kernel⟩
theorem fin12b : ∃ F, (start (bts [3, 0]) 0).fin = F ∧ F.2 = 8 ∧ F.1.all = [] :=
  ⟨_, (IS.fin_run (n := 20) (by decide +kernel)).symm, by decide +kernel, by decide +kernel⟩
theorem RdI.litg (k : IntKind) {w : World} {g : Nat} (hg : g = w.heap.size) (l : List Int) (t : TypeId) (fr : Nat × Nat) : RdI k (w.alloc (.cells (l.map (Value.int k)).toArray t fr)) (g + 1) (some ⟨g, 0, none⟩) l.length l := by
  subst hg
  refine ⟨rfl, fun _ => ⟨_, rfl, by simp, fun i hi => ?_⟩⟩
  have : (⟨w.heap.size, 0, none⟩ : Addr).add i = ⟨w.heap.size, i, none⟩ := by unfold Addr.add; split <;> simp_all
  rw [this, cell_of_row _ _ _ _ _ _ (heap_alloc_new w _)]
  simp [ix, hi]
theorem below_drewn {B : Nat} {w w' : World} (h : Below B w w') (q : Nat) : Below B w (w'.drewN q) := ⟨h.os, h.tape, h.output, h.size, h.block⟩
set_option maxRecDepth 100000 in
set_option maxHeartbeats 1600000 in
theorem answers12_any (w : World) : Calls Try.prog 7 #[] w fun e w' => e = .returned (.bool true) ∧ Below w.heap.size w w' := by
  obtain ⟨F, hF, h8, hall, hx⟩ := fin12a
  have HF := Lib.hid hF
  clear hF
  go_enter Try.func7, Try.ntmps7
  go_wp2_with fail
  refine (whole_any _ (w.heap.size + 1) _ _ _ [1, 1, 0, 254, 255, 7, 9] (RdI.litg .u8 rfl [1, 1, 0, 254, 255, 7, 9] 5 _) (by simp) (by decide) (by decide) 5 5 (by decide) (by decide) F HF.out).mono ?_
  rintro e w1 ⟨A, n, cp, A2, n2, c2, R, rfl, ho, hr, hR8, _, hby, hb⟩
  have hR : R = [9] := by
    have e1 := byt_bts hby
    rw [hR8 h8, hx, byt_bts (by decide)] at e1
    exact e1.symm
  subst hR
  rw [hall] at ho
  have hE : endE F = 0 := by unfold endE; rw [if_pos h8]
  rw [hE]
  have hb1 := ((Below.refl w.heap.size w).alloc (Nat.le_refl _) _).trans (hb.mono (Nat.le_of_lt (by rw [heap_alloc_size]; omega)))
  have hr1 := ho.rd
  obtain rfl : n2 = 1 := hr.1
  obtain rfl : n = 1 := ho.1
  clear hR8 hx hall hE hb ho h8 hby HF
  go_wp2_with fail
  refine (same_any _ (w1.heap.size + 1) _ _ _ _ _ _ [7] [7] ((hr1.alloc (Nat.le_refl _) _).more (Nat.le_succ _)) (RdI.litg .u8 rfl [7] 5 _) (by decide) rfl).mono ?_
  rintro e w2 ⟨rfl, q, rfl⟩
  go_wp2_with fail
  have hz : ∀ o, ((w1.alloc o).drewN q).heap.size = w1.heap.size + 1 := fun o => heap_alloc_size w1 o
  have hrr : ∀ o o2, RdI .u8 (((w1.alloc o).drewN q).alloc o2) (w1.heap.size + 1 + 1) A2 1 [9] := fun o o2 => (((hr.alloc (Nat.le_refl _) o).drewN q).alloc (by rw [hz]; omega) o2).more (by omega)
  refine (same_any _ (w1.heap.size + 1 + 1) _ _ _ _ _ _ [9] [9] (hrr _ _) (RdI.litg .u8 (hz _).symm [9] 5 _) (by decide) rfl).mono ?_
  rintro e w2 ⟨rfl, q2, rfl⟩
  go_wp2_with fail
  go_ret
  have hb2 := below_drewn (hb1.alloc hb1.size (.cells #[.int .u8 7] 5)) q
  have hb3 := below_drewn (hb2.alloc hb2.size (.cells #[.int .u8 9] 5)) q2
  exact ⟨rfl, hb3⟩
end Go.Proofs.Ytoegpffdbfkcpaa

/-
  What is told of a slice of numbers that came in.
-/
namespace Go.Proofs.Ytoegpffdbfkcpaa
open Go.RowKit Go.ChangeShapes Go.WideShapes Go.Deep
set_option linter.unusedVariables false
theorem rdI_of {T E : TypeId} {k : IntKind} (hT : Try.prog.underlying T = some (.slice E)) (hE : Try.prog.underlying E = some (.int k)) (hc : Try.prog.cellsOf E = 1) {H : Type} {enc : TypeId × Value → H} {w : World} {fuel : Nat} {a : Option Addr} {len cap : Nat} {x : DataW H × List MemPlace}
    (h : DataW.trod enc Try.prog w 0 (fun _ => true) true fuel T [.slice a len cap] = some x) : ∃ l : List Int, RdI k w w.heap.size a len l ∧ len ≤ maxLen ∧ ∀ n ∈ l, (Lit.int k n).wf = true := by
  rcases open_ints hT hE hc h with ⟨hcs, _⟩ | ⟨x, l, c, zs, hcs, _, hl, hm, hz, _, hcell, hwz⟩
  · simp at hcs
    obtain ⟨rfl, rfl, rfl⟩ := hcs
    exact ⟨[], ⟨rfl, Rd.nil_⟩, Nat.zero_le _, fun n hn => by simp at hn⟩
  · simp at hcs
    obtain ⟨rfl, rfl, rfl⟩ := hcs
    exact ⟨_, rd_of_row (k := k) (w := w) (a := some x) (len := len) (cap := cap) (zs := zs) (.inr ⟨_, rfl, hl, hm, by simpa using hz, hcell, hwz⟩)⟩
end Go.Proofs.Ytoegpffdbfkcpaa

/-
  What is told of a slice of numbers that came in, its room too.
-/
namespace Go.Proofs.Ytoegpffdbfkcpaa
open Go.RowKit Go.ChangeShapes Go.WideShapes Go.Deep
set_option linter.unusedVariables false
/-- what a law's walk is told of a slice of numbers -/
def InC (k : IntKind) (w : World) (a : Option Addr) (len cap : Nat) (l : List Int) : Prop :=
  RdI k w w.heap.size a len l ∧ len ≤ maxLen ∧ (∀ n ∈ l, (Lit.int k n).wf = true) ∧ len ≤ cap ∧ cap ≤ maxLen
theorem rdC_of {T E : TypeId} {k : IntKind} (hT : Try.prog.underlying T = some (.slice E)) (hE : Try.prog.underlying E = some (.int k)) (hc : Try.prog.cellsOf E = 1) {H : Type} {enc : TypeId × Value → H} {w : World} {fuel : Nat} {a : Option Addr} {len cap : Nat} {x : DataW H × List MemPlace}
    (h : DataW.trod enc Try.prog w 0 (fun _ => true) true fuel T [.slice a len cap] = some x) : ∃ l : List Int, InC k w a len cap l := by
  rcases open_ints hT hE hc h with ⟨hcs, _⟩ | ⟨x, l, c, zs, hcs, _, hl, hm, hz, _, hcell, hwz⟩
  · simp at hcs
    obtain ⟨rfl, rfl, rfl⟩ := hcs
    exact ⟨[], ⟨rfl, Rd.nil_⟩, Nat.zero_le _, fun n hn => by simp at hn, Nat.le_refl _, Nat.zero_le _⟩
  · simp at hcs
    obtain ⟨rfl, rfl, rfl⟩ := hcs
    obtain ⟨h1, h2, h3⟩ := rd_of_row (k := k) (w := w) (a := some x) (len := len) (cap := cap) (zs := zs) (.inr ⟨_, rfl, hl, hm, by simpa using hz, hcell, hwz⟩)
    exact ⟨_, h1, h2, h3, hl, hm⟩
end Go.Proofs.Ytoegpffdbfkcpaa

/-
  The walk of the statement InflateNone.
-/
namespace Go.Proofs.Ytoegpffdbfkcpaa
open Go.RowKit
set_option linter.unusedVariables false
set_option maxRecDepth 100000 in
set_option maxHeartbeats 1600000 in
theorem inone_law (A : Option Addr) (n c : Nat) (b : List Int) (N : Int) (w : World) (T : InC .u8 w A n c b) (hN : (Lit.int .i64 N).wf = true) :
    Calls Try.prog 5 #[.slice A n c, .int .i64 N] w fun e w' => e = .returned (.bool true) ∧ Below w.heap.size w w' := by
  clear T hN
  obtain ⟨F, hF, h8, hall⟩ := fin12b
  have HF := Lib.hid hF
  clear hF
  go_enter Try.func5, Try.ntmps5
  go_wp2_with (first
    | (go_at_call 11; refine (dfeed_nil _ _).mono ?_; rintro e w1 ⟨rfl, rfl⟩)
    | (go_at_call 12; refine (dtake_nil _ _).mono ?_; rintro e w1 ⟨rfl, rfl⟩))
  refine (whole_any _ (w.heap.size + 1) _ _ _ [3, 0] (RdI.litg .u8 rfl [3, 0] 5 _) (by simp) (by decide) (by decide) (-1) 0 (by decide) (by decide) F HF.out).mono ?_
  rintro e w1 ⟨A1, n1, cp, A2, n2, c2, R, rfl, ho, hr, hR8, _, hby, hb⟩
  rw [hall] at ho
  have hE : endE F = 0 := by unfold endE; rw [if_pos h8]
  rw [hE]
  have hb1 := ((Below.refl w.heap.size w).alloc (Nat.le_refl _) _).trans (hb.mono (Nat.le_of_lt (by rw [heap_alloc_size]; omega)))
  obtain rfl : n1 = 0 := ho.1
  clear hR8 hall hE hb ho h8 hby HF hr
  go_wp2_with fail
  refine (answers12_any _).mono ?_
  rintro e wa ⟨rfl, hba⟩
  go_wp2_with fail
  refine (drest_nil _).mono ?_
  rintro e w2 ⟨rfl, rfl⟩
  go_wp2_with fail
  go_ret
  exact ⟨rfl, hb1.trans (hba.mono hb1.size)⟩
end Go.Proofs.Ytoegpffdbfkcpaa
