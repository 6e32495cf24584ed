/-
  The walk of the decoder's Take.
-/
import Derived.Test.YtjeedkjgjfbndaaInfL
import Derived.Test.YtjeedkjgjfbndaaInfN
namespace Go.Proofs.Ytjeedkjgjfbndaa
open Go.RowKit
set_option linter.unusedVariables false
section
variable {w w' w0 w2 : World} {b0 g : Nat} {c c0 : Nat → Nat} {M M' : DM} {S S' : DS} {s t t' : IS} {b : List Int} {v : Int}
theorem dtake_nil (w : World) (n : Int) : Calls Try.prog 16 #[.pointer none, .int .i64 n] w fun e w' => e = .returned (.tuple #[.slice none 0 0, .int .i64 8]) ∧ w = w' := by
  go_enter Try.func16, Try.ntmps16
  go_wp2
  go_ret2
  exact ⟨rfl, rfl⟩
theorem drest_nil (w : World) : Calls Try.prog 18 #[.pointer none] w fun e w' => e = .returned (.slice none 0 0) ∧ w = w' := by
  go_enter Try.func18, Try.ntmps18
  go_wp2
  go_ret
  exact ⟨rfl, rfl⟩
/-- ahead of Take's cut: b came out; k bounds the rounds -/
def TakeR (w0 : World) (c0 : Nat → Nat) (b0 g : Nat) (M : DM) (F : IS × Int) (a : List Int) (n : Nat) (k : Nat) (v6 : Value) (wr : World) : Prop :=
  ∃ M' S' b v, v6 = .int .i64 v ∧ InfS w0 c0 wr b0 g M' S' ∧ M'.out = M.out ++ b ∧ M'.out.length ≤ max M.out.length (n + 70000) ∧
    ((v = 0 ∧ ∃ s, Alive F (a ++ b) M' S' s ∧ Hid (k = s.mu + 1)) ∨ (v = 5 ∧ ∃ s, Alive F (a ++ b) M' S' s ∧ s.step.2 = 5) ∨ Ended F (a ++ b) M' S')
/-- how Take answers: l the bytes, q what waits on -/
def TakeE (F : IS × Int) (a : List Int) (M : DM) (S : DS) (n : Nat) (l : List Int) (r : Int) : Prop :=
  (r = 0 ∧ l.length = n ∧ ((∃ s, Alive F a M S s) ∨ Ended F a M S)) ∨
  (r = 5 ∧ l.length < n ∧ M.out = [] ∧ ((∃ s, Alive F a M S s ∧ s.step.2 = 5) ∨ (0 < l.length ∧ Ended F a M S))) ∨
  (r ≠ 0 ∧ r ≠ 5 ∧ r = F.2 ∧ l = [] ∧ 0 < n ∧ M.out = [] ∧ Ended F a M S)
def TakePost (w0 : World) (c0 : Nat → Nat) (b0 g : Nat) (M : DM) (F : IS × Int) (a : List Int) (n : Nat) (e : Ending) (w' : World) : Prop :=
  ∃ A k cp r M' S' b l c, e = .returned (.tuple #[.slice A k cp, .int .i64 r]) ∧ OwnI .u8 w' b0 5 A k cp l ∧ InfM w' b0 g c M' S' ∧ DE b0 w0 c0 w' c ∧ (∀ q, blkOf A = some q → c q = 0) ∧ M.out ++ b = l ++ M'.out ∧ M'.out.length ≤ max M.out.length 70000 ∧ TakeE F (a ++ b) M' S' n l r
def TakeB (wq : World) (kk : Nat) (l : List Int) (v8 : Value) (wx : World) : Prop :=
  ∃ A cp, v8 = .slice A kk cp ∧ OwnI .u8 wx wq.heap.size 5 A kk cp l ∧ Below wq.heap.size wq wx
def TakeQ (w0 : World) (c0 : Nat → Nat) (b0 g : Nat) (M : DM) (S : DS) (A : Option Addr) (kk cp : Nat) (l q : List Int) (wx : World) : Prop :=
  ∃ c A3 n3 c3, InfM wx b0 g c { M with Ao := A3, no := n3, co := c3, out := q } S ∧ DE b0 w0 c0 wx c ∧ OwnI .u8 wx b0 5 A kk cp l ∧ ∀ q, blkOf A = some q → c q = 0
set_option maxRecDepth 100000 in
set_option maxHeartbeats 4000000 in
theorem dtake_any {F : IS × Int} {a : List Int} (h : InfS w0 c0 w b0 g M S) (hR : (∃ s, Alive F a M S s) ∨ Ended F a M S) (N : Int) (n : Nat) (hN : (n : Int) = max N 0) (hn : n ≤ 1000000000) (hlo : M.out.length ≤ 1000000000) :
    Calls Try.prog 16 #[.pointer (some ⟨g, 0, none⟩), .int .i64 N] w (TakePost w0 c0 b0 g M F a n) := by
  obtain ⟨i0, hi, hz0, hz1, hz2⟩ := info_parts rbyte_info
  have Hi := Lib.hid hi
  have Hz0 := Lib.hid hz0
  have Hz1 := Lib.hid hz1
  have Hz2 := Lib.hid hz2
  clear hi hz0 hz1 hz2
  have hinit : ∃ k, TakeR w0 c0 b0 g M F a n k (.int .i64 0) w := by
    rcases hR with ⟨s, hs⟩ | hs
    · exact ⟨s.mu + 1, M, S, [], 0, rfl, h, by simp, by omega, .inl ⟨rfl, s, by rw [List.append_nil]; exact hs, rfl⟩⟩
    · exact ⟨0, M, S, [], 0, rfl, h, by simp, by omega, .inr (.inr (by rw [List.append_nil]; exact hs))⟩
  obtain ⟨k0, hinit⟩ := hinit
  have HI := Lib.hid hinit
  have hws : w.heap.size = w.heap.size := rfl
  clear hR hinit h hws
  have hnI : (0 : Int) ≤ n ∧ (n : Int) ≤ 1000000000 := by omega
  have HN := Lib.hid hN
  clear hN
  go_enter Try.func16, Try.ntmps16
  go_upto_region 3 with fail
  go_cut [1] (fun s1 wx => s1 = .int .i64 n ∧ wx = w)
  case first =>
    go_wp2_with fail
    go_meet
    exact ⟨by rw [HN.out], rfl⟩
  case rest =>
    obtain ⟨rfl, rfl⟩ := hcut
    go_wp2_with fail
    go_loopg [6] k0 (TakeR w0 c0 b0 g M F a n)
    case atStart => exact HI.out
    case round =>
      clear HI
      obtain ⟨M1, S1, b, v, rfl, h, hout, hlen, hcs⟩ := hrel
      obtain ⟨-, -, -, k3, k4, -⟩ := h.cells
      have hno := h.out.1
      have hnoI : (0 : Int) ≤ M1.no ∧ (M1.no : Int) ≤ 2000000000 := by omega
      have HNO := Lib.hid hno
      obtain ⟨Bd, hBd⟩ : ∃ Bd, decide ((M1.no : Int) < n ∧ S1.err = 0 ∧ v = 0) = Bd := ⟨_, rfl⟩
      have HBd := Lib.hid hBd
      have HO := Lib.hid hout
      have HLN := Lib.hid hlen
      have HCS := Lib.hid hcs
      clear hBd hno hout hlen hcs
      go_upto_region 5 with fail
      go_cut [30] (fun s wx => s = .bool Bd ∧ wx = wr)
      case first =>
        by_cases h1 : (M1.no : Int) < n
        · by_cases h2 : S1.err = 0
          · by_cases h3 : v = 0
            · have hd : Hid (true = Bd) := by show _ = _; rw [← HBd.out]; exact (decide_eq_true ⟨h1, h2, h3⟩).symm
              rw [h2] at k4
              clear HBd HCS h2
              subst h3
              go_wp2_with fail
              go_meet
              exact ⟨congrArg Value.bool hd.out, rfl⟩
            · have hd : Hid (false = Bd) := by show _ = _; rw [← HBd.out]; exact (decide_eq_false fun h => h3 h.2.2).symm
              rw [h2] at k4
              have hvf : (v == 0) = false := by simpa using h3
              clear HBd HCS h2 h3
              go_wp2_with fail
              go_meet
              exact ⟨congrArg Value.bool hd.out, rfl⟩
          · have hd : Hid (false = Bd) := by show _ = _; rw [← HBd.out]; exact (decide_eq_false fun h => h2 h.2.1).symm
            have hvf : (S1.err == 0) = false := by simpa using h2
            clear HBd HCS h2
            go_wp2_with fail
            go_meet
            exact ⟨congrArg Value.bool hd.out, rfl⟩
        · have hd : Hid (false = Bd) := by show _ = _; rw [← HBd.out]; exact (decide_eq_false fun h => h1 h.1).symm
          clear HBd HCS
          go_wp2_with fail
          go_meet
          exact ⟨congrArg Value.bool hd.out, rfl⟩
      case rest =>
        obtain ⟨rfl, rfl⟩ := hcut
        by_cases hB : (M1.no : Int) < n ∧ S1.err = 0 ∧ v = 0
        · rw [← HBd.out, decide_eq_true hB]
          obtain ⟨hB1, hB2, hB3⟩ := hB
          subst hB3
          have hA : ∃ s, Alive F (a ++ b) M1 S1 s ∧ Hid (gk = s.mu + 1) := by
            rcases HCS.out with ⟨_, h1⟩ | ⟨h1, _⟩ | h1
            · exact h1
            · exact absurd h1 (by decide)
            · exact absurd (h1.err.symm.trans hB2) h1.ne.1
          obtain ⟨s, hA, hk⟩ := hA
          have hw1 : IntKind.i64.wrap ((n : Int) - (M1.no : Int)) = (n : Int) - (M1.no : Int) := IntWalk.i64_in _ (by omega)
          have hst := dstep_any h hA.live hA.ok ((n : Int) - (M1.no : Int)) (by omega) (by omega) (by rw [← HNO.out]; omega) (by have := hA.rem; omega)
          have HST := Lib.hid hst
          clear HBd HCS hst hB2
          go_wp2_with fail
          refine HST.out.mono ?_
          rintro e w5 ⟨M2, S2, s2, v2, b2, rfl, h2, he2, ho2, ha2, hb2, hc2⟩
          have hln2 : Hid (M2.out.length ≤ max M.out.length (n + 70000)) := by
            show _ ≤ _
            rw [ho2, List.length_append]
            have := HNO.out
            omega
          have hob : Hid (M2.out = M.out ++ (b ++ b2)) := by show _ = _; rw [ho2, HO.out, List.append_assoc]
          have hab : Hid (s2.all = a ++ (b ++ b2)) := by show _ = _; rw [ha2, hA.all, List.append_assoc]
          have HE2 := Lib.hid he2
          clear he2 ho2 ha2 hb2
          rcases hc2 with ⟨rfl, q1, q2, q3⟩ | ⟨rfl, q1, q2, q3⟩ | ⟨q1, q2, q3, q4⟩
          · have Q2 := Lib.hid q2
            clear q2
            go_wp2_with fail
            go_roundg (s2.mu + 1)
            case measure => have := hk.out; have := Q2.out; omega
            case rel => exact ⟨M2, S2, b ++ b2, 0, rfl, h2, hob.out, hln2.out, .inl ⟨rfl, s2, ⟨q3, hA.ok.steps q1, q1.fin_eq.trans hA.fin, hab.out, by have := q1.out; obtain ⟨_, _, h⟩ := this; have := hA.rem; omega⟩, rfl⟩⟩
          · have Q2 := Lib.hid q2
            clear q2
            go_wp2_with fail
            go_roundg 0
            case measure => have := hk.out; omega
            case rel => exact ⟨M2, S2, b ++ b2, 5, rfl, h2, hob.out, hln2.out, .inr (.inl ⟨rfl, s2, ⟨q3, hA.ok.steps q1, q1.fin_eq.trans hA.fin, hab.out, by have := q1.out; obtain ⟨_, _, h⟩ := this; have := hA.rem; omega⟩, Q2.out⟩)⟩
          · have hvf : (v2 == 0) = false := by simpa using q1
            have hv5 : (v2 == 5) = false := by simpa using q2
            have z4 := h2.cell.frozen' (i := 4) (by omega)
            have j4 := h2.cell.cell (i := 4) (by omega)
            have h3 := h2.put (i := 4) (by omega) (.int .i64 v2) { S2 with err := v2 } (all16 rfl rfl rfl rfl rfl rfl rfl rfl rfl rfl rfl rfl rfl rfl rfl rfl)
            have hfin : Hid (F = (s2, v2)) := by show _ = _; rw [← hA.fin]; exact q3
            have hEnd : Ended F (a ++ (b ++ b2)) M2 { S2 with err := v2 } := ⟨by rw [hfin.out], by rw [hfin.out]; exact ⟨q1, q2⟩, by rw [hfin.out]; exact hab.out, fun e => by
              rw [hfin.out] at e ⊢
              have hl := q4 e
              refine ⟨⟨hl.x, hl.st, hl.last, hl.left, hl.c0, hl.c1, hl.c2, hl.lens, hl.hd, hl.lt, hl.ds, hl.len, hl.tail, hl.rem, rfl⟩, ?_⟩
              have e8 : v2 = 8 := e
              obtain ⟨t3, ht3, ht4⟩ := IS.fin_steps s
              have : t3.step = (s2, v2) := by rw [ht4, q3]
              have h8 := IS.step_done (s := t3) (by rw [this]; exact e8)
              have : s2 = t3 := by rw [← h8.1, this]
              rw [this]
              exact hA.ok.steps ht3⟩
            clear q3 q4
            go_wp2_with fail
            go_roundg 0
            case measure => have := hk.out; omega
            case rel => exact ⟨M2, { S2 with err := v2 }, b ++ b2, v2, rfl, h3, hob.out, hln2.out, .inr (.inr hEnd)⟩
        · rw [← HBd.out, decide_eq_false hB]
          have hdone : Hid ((n ≤ M1.no ∧ ((∃ s, Alive F (a ++ b) M1 S1 s) ∨ Ended F (a ++ b) M1 S1)) ∨ (∃ s, Alive F (a ++ b) M1 S1 s ∧ s.step.2 = 5) ∨ Ended F (a ++ b) M1 S1) := by
            rcases HCS.out with ⟨h1, s, h2, _⟩ | ⟨_, h1⟩ | h1
            · exact .inl ⟨by have := h2.live.err; omega, .inl ⟨s, h2⟩⟩
            · exact .inr (.inl h1)
            · exact .inr (.inr h1)
          obtain ⟨kk, hkk⟩ : ∃ kk, min n M1.no = kk := ⟨_, rfl⟩
          have hkI : (0 : Int) ≤ kk ∧ (kk : Int) ≤ n ∧ (kk : Int) ≤ M1.no := by omega
          have HKK : Hid (min (n : Int) (M1.no : Int) = (kk : Int)) := by show _ = _; omega
          have HK2 : Hid (kk = n ∨ (kk < n ∧ kk = M1.no)) := by show _ ∨ _; omega
          clear HBd HCS hB hkk
          go_upto_region 9 with fail
          go_cut [7] (fun s wx => s = .int .i64 kk ∧ wx = wc)
          case first =>
            go_wp2_with fail
            go_meet
            exact ⟨by rw [HKK.out], rfl⟩
          case rest =>
            rename World => wq
            obtain ⟨rfl, rfl⟩ := hcut
            have hcap := h.out.2.capLe
            have hsl1 := run_slice_to (P := Try.prog) 26 5 Try.underlying26 Hi.out Hz1.out M1.Ao M1.no M1.co (j := kk) (by omega)
            have hsl2 := run_slice_from (P := Try.prog) 26 5 Try.underlying26 Hi.out Hz1.out M1.Ao M1.no M1.co (j := kk) (by omega)
            obtain ⟨c, hM, hD⟩ := h
            have hra : RdI .u8 (wq.alloc (.cells #[] 5)) wq.heap.size M1.Ao kk (M1.out.take kk) := (hM.out.rd.pre (by omega)).alloc (Nat.le_refl _) _
            have hbl := hM.lo
            have hgl0 := hM.cell.lt
            have hnat : kk ≤ 1000000000 ∧ kk ≤ M1.no ∧ M1.no ≤ 2000000000 := by omega
            go_upto_region 10 with fail
            go_cut [8] (fun s8 wx => TakeB wq kk (M1.out.take kk) s8 wx)
            case first =>
              go_wp2_with (at_builtin; (refine wpList_app .u8 wq.heap.size 5 i0 1 rfl (.tmp 57) (.tmp 63) _ rfl Try.underlying26 Hi.out Hz0.out Hz1.out Hz2.out rfl (OwnI.lit rfl [] _ (Nat.le_refl _) (by simp)) rfl hra (by omega) (by omega) (by simp) ?_)
                           intro A2 d2 w2 hown hg hat)
              go_meet
              rw [List.nil_append, Nat.zero_add] at hown
              exact ⟨A2, d2, rfl, hown, ((Below.refl _ wq).alloc (Nat.le_refl _) _).grown hg (by simp) (by simp [blkOf])⟩
            case rest =>
              obtain ⟨A8, d8, rfl, ho8, hb8⟩ := hcut
              clear k3 k4 hra hsl1
              have hM8 := hM.keeps hb8
              have hD8 := hD.step (c' := c) hM.lo (fun k hk => (hM.cb k hk).1) (Chg.of_below hb8) (fun _ _ => rfl)
              have k3 := hM8.cell.cell (i := 3) (by omega)
              rw [show dF M1 S1 3 = .slice M1.Ao M1.no M1.co from rfl] at k3
              have z3 := hM8.cell.frozen' (i := 3) (by omega)
              have hra : RdI .u8 (wc.alloc (.cells #[] 5)) wc.heap.size (cutA M1.Ao M1.co kk) (M1.no - kk) (M1.out.drop kk) := (hM8.out.rd.cutA (by omega) hcap).alloc (Nat.le_refl _) _
              have hgl := hM8.cell.lt
              have hq8 : Hid (∀ q, blkOf A8 = some q → c q = 0 ∧ q < wc.heap.size ∧ q ≠ g) := fun q hq => by
                have h1 := ho8.2.lt hq
                refine ⟨?_, h1.2, ?_⟩
                · by_cases e : c q = 0
                  · exact e
                  · have := (hM.cb q e).2; omega
                · have := hM.cell.lt; omega
              go_upto_region 11 with fail
              go_cut [] (fun wx => TakeQ w0 c0 b0 g M1 S1 A8 kk d8 (M1.out.take kk) (M1.out.drop kk) wx)
              case first =>
                have hcl := hM8.cell
                go_wp2_with (at_builtin; (refine wpList_app .u8 wc.heap.size 5 i0 1 rfl (.tmp 66) (.tmp 72) _ rfl Try.underlying26 Hi.out Hz0.out Hz1.out Hz2.out rfl (OwnI.lit rfl [] _ (Nat.le_refl _) (by simp)) rfl hra (by omega) (by omega) (by simp) ?_)
                             intro A2 d2 w2 hown hg hat
                             have har2 := (hcl.alloc (.cells #[] 5)).grown hg (by simp [blkOf]; omega)
                             have x3 := har2.cell (i := 3) (by omega)
                             have y3 := har2.frozen' (i := 3) (by omega))
                go_meet
                rw [List.nil_append, Nat.zero_add] at hown
                have hb11 : Below wc.heap.size wc w2 := ((Below.refl _ wc).alloc (Nat.le_refl _) _).grown hg (by simp) (by simp [blkOf])
                have hne2 : blkOf A2 ≠ some g := fun e => by have := (hown.2.lt e).1; omega
                have hcc : Chg wc (w2.setCell ⟨g, 3, none⟩ (.slice A2 (M1.no - kk) d2)) (fun k => k = g ∨ blkOf M1.Ao = some k) := ((Chg.of_below hb11).setCell (p := ⟨g, 3, none⟩) (.inl (.inl rfl)) _)
                have hM11 := hM8.outs (S' := S1) (l' := M1.out.drop kk) (A' := A2) (n' := M1.no - kk) (c' := d2) hcc ((har2.set_ (i := 3) (by omega) _).congr (all16 rfl rfl rfl rfl rfl rfl rfl rfl rfl rfl rfl rfl rfl rfl rfl rfl)) ((hown.far (p := ⟨g, 3, none⟩) hne2 _).more (Nat.le_trans hbl hb8.size)) (fun k hk => .inr (hown.2.lt hk).1)
                refine ⟨colour c wc.heap.size (fun k => blkOf A2 = some k) 4, A2, M1.no - kk, d2, hM11, ?_, ?_, ?_⟩
                · exact hD8.step hM8.lo (fun k hk => (hM8.cb k hk).1) (hcc.more fun k hk => by
                    rcases hk with rfl | hk
                    · rw [hM8.cg]; decide
                    · rw [hM8.co k hk]; decide) (fun k hk => colour_old hk)
                · exact ((ho8.keeps hb11).far (p := ⟨g, 3, none⟩) (fun e => (hq8.out _ e).2.2 rfl) _).more hbl
                · intro q hq
                  rw [colour_old (hq8.out q hq).2.1]
                  exact (hq8.out q hq).1
              case rest =>
                obtain ⟨c11, A3, n3, c3, hM11, hD11, ho11, hq11⟩ := hcut
                have hlt : Hid ((M1.out.take kk).length = kk) := by show _ = _; rw [List.length_take, ← HNO.out]; omega
                have hcat : Hid (M.out ++ b = M1.out.take kk ++ M1.out.drop kk) := by show _ = _; rw [List.take_append_drop, HO.out]
                have hld : Hid ((M1.out.drop kk).length ≤ max M.out.length 70000) := by
                  show _ ≤ _
                  rw [List.length_drop]
                  have := HLN.out; have := HK2.out; have := HNO.out
                  omega
                have j4 := hM11.cell.cell (i := 4) (by omega)
                rw [show dF { M1 with Ao := A3, no := n3, co := c3, out := M1.out.drop kk } S1 4 = .int .i64 S1.err from rfl] at j4
                have hTA : ∀ s, Alive F (a ++ b) M1 S1 s → Alive F (a ++ b) { M1 with Ao := A3, no := n3, co := c3, out := M1.out.drop kk } S1 s := fun s h => ⟨⟨h.live.x, h.live.st, h.live.last, h.live.left, h.live.c0, h.live.c1, h.live.c2, h.live.lens, h.live.hd, h.live.lt, h.live.ds, h.live.len, h.live.tail, h.live.rem, h.live.err⟩, h.ok, h.fin, h.all, h.rem⟩
                have hTE : Ended F (a ++ b) M1 S1 → Ended F (a ++ b) { M1 with Ao := A3, no := n3, co := c3, out := M1.out.drop kk } S1 := fun h => ⟨h.err, h.ne, h.all, fun e => by
                  obtain ⟨h1, h2⟩ := h.at8 e
                  exact ⟨⟨h1.x, h1.st, h1.last, h1.left, h1.c0, h1.c1, h1.c2, h1.lens, h1.hd, h1.lt, h1.ds, h1.len, h1.tail, h1.rem, h1.err⟩, h2⟩⟩
                have HTA := Lib.hid hTA
                have HTE := Lib.hid hTE
                clear hTA hTE k3 z3 hra hsl2
                have hcs : kk = n ∨ ((kk : Int) < n ∧ kk = M1.no) := by have := HK2.out; omega
                rcases hcs with h1 | ⟨h1, h2⟩
                · subst h1
                  go_wp2_with fail
                  go_ret2
                  refine ⟨A8, _, d8, 0, _, S1, b, _, c11, rfl, ho11, hM11, hD11, hq11, hcat.out, hld.out, .inl ⟨rfl, hlt.out, ?_⟩⟩
                  rcases hdone.out with ⟨_, ⟨s, h2⟩ | h2⟩ | ⟨s, h2, _⟩ | h2
                  · exact .inl ⟨s, HTA.out s h2⟩
                  · exact .inr (HTE.out h2)
                  · exact .inl ⟨s, HTA.out s h2⟩
                  · exact .inr (HTE.out h2)
                · have hnf : ((kk : Int) == (n : Int)) = false := by simp; omega
                  have hdz : Hid (M1.out.drop kk = []) := by show _ = _; rw [List.drop_eq_nil_iff, ← HNO.out]; omega
                  have hdn : (∃ s, Alive F (a ++ b) M1 S1 s ∧ s.step.2 = 5) ∨ Ended F (a ++ b) M1 S1 := by
                    rcases hdone.out with ⟨h3, _⟩ | h3 | h3
                    · omega
                    · exact .inl h3
                    · exact .inr h3
                  have hkn : kk < n := by omega
                  clear h2
                  rcases hdn with ⟨s, hA, hA5⟩ | hE
                  · have he0 := hA.live.err
                    rw [he0] at j4
                    have HA5 := Lib.hid hA5
                    clear he0 hA5
                    go_wp2_with fail
                    go_ret2
                    exact ⟨A8, _, d8, 5, _, S1, b, _, c11, rfl, ho11, hM11, hD11, hq11, hcat.out, hld.out, .inr (.inl ⟨rfl, by rw [hlt.out]; exact hkn, hdz.out, .inl ⟨s, HTA.out s hA, HA5.out⟩⟩)⟩
                  · obtain ⟨hne0, hne5⟩ := hE.ne
                    rw [← hE.err] at hne0 hne5
                    have hef : (S1.err == 0) = false := by simpa using hne0
                    by_cases hk0 : (0 : Int) < kk
                    · go_wp2_with fail
                      go_ret2
                      exact ⟨A8, _, d8, 5, _, S1, b, _, c11, rfl, ho11, hM11, hD11, hq11, hcat.out, hld.out, .inr (.inl ⟨rfl, by rw [hlt.out]; exact hkn, hdz.out, .inr ⟨by rw [hlt.out]; omega, HTE.out hE⟩⟩)⟩
                    · have hkz : kk = 0 := by omega
                      have hcat0 : Hid (M.out ++ b = [] ++ M1.out.drop kk) := by show _ = _; rw [hcat.out, hkz]; rfl
                      have HE0 := Lib.hid hne0
                      have HE5 := Lib.hid hne5
                      clear hkz
                      go_wp2_with fail
                      go_region
                      all_goals
                        go_wp2_with fail
                        go_ret2
                        exact ⟨none, 0, 0, S1.err, _, S1, b, [], c11, rfl, OwnI.nil_, hM11.keeps (Below.refl _ _).drew, hD11.step hM11.lo (fun k hk => (hM11.cb k hk).1) (Chg.of_below (Below.refl _ _).drew) (fun _ _ => rfl), fun q hq => by simp [blkOf] at hq, hcat0.out, hld.out, .inr (.inr ⟨HE0.out, HE5.out, hE.err, rfl, by omega, hdz.out, HTE.out hE⟩)⟩
end
end Go.Proofs.Ytjeedkjgjfbndaa
