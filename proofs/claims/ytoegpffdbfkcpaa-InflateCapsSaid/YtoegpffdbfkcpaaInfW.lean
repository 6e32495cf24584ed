/-
  The walk of Whole.
-/
import Derived.Test.YtoegpffdbfkcpaaInfU
import Derived.Test.YtoegpffdbfkcpaaPk
namespace Go.Proofs.Ytoegpffdbfkcpaa
open Go.RowKit
set_option linter.unusedVariables false
section
variable {w w' w0 w2 : World} {b0 g : Nat} {c c0 : Nat → Nat} {M M' : DM} {S S' : DS} {s t t' : IS} {b : List Int} {v : Int}
/-- the error that a whole stream ends with -/
def endE (F : IS × Int) : Int := if F.2 = 8 then 0 else F.2
def WholePost (w : World) (F : IS × Int) (e : Ending) (w' : World) : Prop :=
  ∃ A n cp A2 n2 c2 R, e = .returned (.tuple #[.slice A n cp, .slice A2 n2 c2, .int .i64 (endE F)]) ∧ OwnI .u8 w' w.heap.size 5 A n cp F.1.all ∧ RdI .u8 w' w'.heap.size A2 n2 R ∧ (F.2 = 8 → bts R = F.1.x) ∧ (F.2 ≠ 8 → R = []) ∧ (∀ x ∈ R, 0 ≤ x ∧ x < 256) ∧ Below w.heap.size w w'
/-- ahead of a round: l is in the result's hands -/
def WhR (w : World) (g : Nat) (F : IS × Int) (k : Nat) (v4 : Value) (wr : World) : Prop :=
  ∃ A n cp l M S a c, v4 = .slice A n cp ∧ OwnI .u8 wr w.heap.size 5 A n cp l ∧ InfM wr w.heap.size g c M S ∧ (∀ q, blkOf A = some q → c q = 0) ∧ a = l ++ M.out ∧ ((∃ s, Alive F a M S s) ∨ Ended F a M S) ∧ M.out.length ≤ 70000 ∧ Hid (k = F.1.all.length - l.length) ∧ Below w.heap.size w wr
/-- behind the append of what Take gave -/
def WhS (w : World) (A1 : Option Addr) (n1 k5 : Nat) (l l5 : List Int) (c5 : Nat → Nat) (g : Nat) (M5 : DM) (S5 : DS) (v4 : Value) (wx : World) : Prop :=
  ∃ A2 n2 d2, v4 = .slice A2 n2 d2 ∧ OwnI .u8 wx w.heap.size 5 A2 n2 d2 (l ++ l5) ∧ InfM wx w.heap.size g c5 M5 S5 ∧ (∀ q, blkOf A2 = some q → c5 q = 0) ∧ Below w.heap.size w wx
theorem decr_len {F : IS × Int} {a : List Int} (h : (∃ s, Alive F a M S s) ∨ Ended F a M S) : a.length ≤ F.1.all.length := by
  rcases h with ⟨s, h⟩ | h
  · obtain ⟨b, h1, _⟩ := IS.fin_out s
    rw [h.fin] at h1
    rw [h1, List.length_append, h.all]
    omega
  · rw [h.all]; exact Nat.le_refl _
theorem alive_end {F : IS × Int} {a : List Int} (h : Alive F a M S s) (h5 : s.step.2 = 5) : F.2 = 5 ∧ F.1.all = a := by
  have e := IS.fin_stop (s := s) (by rw [h5]; decide)
  rw [h.fin] at e
  rw [e]
  exact ⟨h5, by rw [IS.step_lack h5, h.all]⟩
theorem fin8 (h : s.Ok) (e : s.fin.2 = 8) : s.fin.1.st = 8 := by
  obtain ⟨t, h1, h2⟩ := IS.fin_steps s
  rw [← h2] at e ⊢
  obtain ⟨h3, a0, a1, a2, a3, a4, a5, a6, a7⟩ := IS.step_done e
  rw [h3]
  have := (h.steps h1).st8
  omega
theorem takeE_len {F : IS × Int} {a : List Int} {n : Nat} {l : List Int} {r : Int} (h : TakeE F a M S n l r) : l.length ≤ n := by
  rcases h with ⟨_, h, _⟩ | ⟨_, h, _⟩ | ⟨_, _, _, h, _⟩
  · omega
  · omega
  · rw [h]; simp
set_option maxRecDepth 100000 in
set_option maxHeartbeats 4000000 in
theorem whole_any (w : World) (Bd : Nat) (A : Option Addr) (n cp : Nat) (b : List Int) (hr : RdI .u8 w Bd A n b) (hBd : Bd ≤ w.heap.size) (hby : ∀ x ∈ b, 0 ≤ x ∧ x < 256) (hlen : b.length ≤ 10000000000) (most : Int) (m : Nat) (hm : (m : Int) = max most 0) (hmb : m ≤ 1000000000) (F : IS × Int) (hF : (start (bts b) m).fin = F) :
    Calls Try.prog 9 #[.slice A n cp, .int .i64 most] w (WholePost w F) := by
  obtain ⟨i0, hi, hz0, hz1, hz2⟩ := info_parts rbyte_info
  have Hi := Lib.hid hi
  have Hz0 := Lib.hid hz0
  have Hz1 := Lib.hid hz1
  have Hz2 := Lib.hid hz2
  have HM := Lib.hid hm
  have HF := Lib.hid hF
  have hFl : F.1.all.length ≤ 1000000000 := by
    obtain ⟨b', h1, h2⟩ := IS.fin_out (start (bts b) m)
    rw [hF] at h1 h2
    rw [h1]
    have : (start (bts b) m).all = [] := rfl
    have h3 : (start (bts b) m).rem = m := rfl
    rw [this, List.nil_append]
    omega
  clear hi hz0 hz1 hz2 hm hF
  go_enter Try.func9, Try.ntmps9
  go_wp2_with fail
  refine (dnew_any _ most m HM.out).mono ?_
  rintro e w1 ⟨g, c, M, S, rfl, hM, hb1, hMB, hMa, hMo, hL⟩
  have HMB := Lib.hid hMB
  have HMA := Lib.hid hMa
  have HMO := Lib.hid hMo
  clear hMB hMa hMo
  go_wp2_with fail
  refine (dfeed_any hM.refl Bd n cp A b (hr.below (hb1.mono hBd)) (Nat.le_trans hBd hb1.size) hby (by rw [HMB.out]; simp; omega)).mono ?_
  rintro e w2 ⟨A', n', c', rfl, c2, hM2, hD2⟩
  have hinit : ∃ k, WhR w g F k (.slice none 0 0) w2 := by
    refine ⟨_, none, 0, 0, [], _, S, [], c2, rfl, OwnI.nil_, hM2, fun q hq => by simp [blkOf] at hq, by show [] = [] ++ M.out; rw [HMO.out]; rfl, .inl ⟨start (bts b) m, ⟨?_, hL.st, hL.last, hL.left, hL.c0, hL.c1, hL.c2, hL.lens, hL.hd, hL.lt, hL.ds, hL.len, hL.tail, hL.rem, hL.err⟩, .start (Bit.bts b) m, HF.out, rfl, by show m ≤ _; omega⟩, by show M.out.length ≤ _; rw [HMO.out]; simp, rfl, hb1.trans hD2.1⟩
    show rb (M.B.drop (M.a / 8) ++ b) (M.a % 8) = bts b
    rw [HMB.out, HMA.out]
    rfl
  obtain ⟨k0, hinit⟩ := hinit
  have HI := Lib.hid hinit
  clear hinit hM2 hD2 hL hM HMB HMA HMO
  go_wp2_with fail
  go_loopg [4] k0 (WhR w g F)
  case atStart => exact HI.out
  case round =>
    clear HI
    obtain ⟨A1, n1, cp1, l, M1, S1, a, cc, rfl, ho, hM, hq, ha, hR, hml, hk, hbw⟩ := hrel
    have hnl := ho.1
    have hal := decr_len hR
    have htk := dtake_any hM.refl hR 16384 16384 (by decide) (by decide) (by omega)
    have HTK := Lib.hid htk
    have HA := Lib.hid ha
    have hlF : l.length ≤ 1000000000 := by rw [ha, List.length_append] at hal; omega
    have HNL := Lib.hid hnl
    have hn1 : n1 ≤ 1000000000 := by omega
    clear htk ha hR hal hnl
    go_wp2_with fail
    refine HTK.out.mono ?_
    rintro e w5 ⟨A5, k5, cp5, r, M5, S5, b5, l5, c5, rfl, ho5, hM5, hD5, hq5, hcat, hml5, hE⟩
    have hl5 := takeE_len hE
    have hk5 := ho5.1
    have hk5b : k5 ≤ 16384 := by omega
    have hoL := hD5.2.1.ownI ho (fun q h1 h2 => h2 (hq q h1))
    have hqc : Hid (∀ q, blkOf A1 = some q → c5 q = 0) := fun q h1 => by rw [hD5.2.2 q (ho.2.lt h1).2]; exact hq q h1
    have hb5 := hbw.trans hD5.1
    have hlo5 := hM5.lo
    have hr5 := ho5.rd
    have HE := Lib.hid hE
    have HCAT := Lib.hid hcat
    have HL5 := Lib.hid hml5
    have hK5 := Lib.hid hk5
    clear hE hcat hml5 hk5 ho5 hq5
    go_upto_region 4 with fail
    go_cut [4] (fun s4 wx => WhS w A1 n1 k5 l l5 c5 g M5 S5 s4 wx)
    case first =>
      go_wp2_with (at_builtin; (refine wpList_app .u8 w.heap.size 5 i0 1 rfl (.tmp 20) (.tmp 21) _ rfl Try.underlying22 Hi.out Hz0.out Hz1.out Hz2.out rfl hoL rfl hr5 (by omega) (by omega) hlo5 ?_)
                   intro A2 d2 w6 hown hg hat)
      go_meet
      refine ⟨A2, n1 + k5, d2, rfl, hown, hM5.aside ((Chg.refl w5 (fun q => blkOf A1 = some q)).grown hg (fun k e => .inl e)) (fun k hk => hqc.out k hk), fun q h1 => ?_, below_grown hb5 hg hlo5 (fun q h1 => (hoL.2.lt h1).1)⟩
      rcases hat with e | e
      · exact hqc.out q (by rw [← e]; exact h1)
      · rw [e] at h1
        injection h1 with h1
        by_cases e2 : c5 q = 0
        · exact e2
        · have := (hM5.cb q e2).2; omega
    case rest =>
      obtain ⟨A2, n2, d2, rfl, hown, hM6, hq6, hb6⟩ := hcut
      have ha6 : Hid (a ++ b5 = (l ++ l5) ++ M5.out) := by show _ = _; rw [HA.out, List.append_assoc, HCAT.out, List.append_assoc]
      have k4 := hM6.cell.cell (i := 4) (by omega)
      rw [show dF M5 S5 4 = .int .i64 S5.err from rfl] at k4
      have hml6 : Hid (M5.out.length ≤ 70000) := by show _ ≤ _; have := HL5.out; omega
      have hcs := HE.out
      unfold TakeE at hcs
      clear HE hM5 hD5 hM ho hq hoL hr5 hlo5 hb5 hbw
      rcases hcs with ⟨rfl, h1, h2⟩ | ⟨rfl, h1, h2, ⟨s, h3, h4⟩ | ⟨h3, h4⟩⟩ | ⟨h0, h5, h6, h7, h8, h9, h10⟩
      · have hal := decr_len h2
        rw [ha6.out, List.length_append, List.length_append] at hal
        have H1 := Lib.hid h1
        clear h1
        go_wp2_with fail
        go_roundg (F.1.all.length - (l ++ l5).length)
        case measure => rw [List.length_append]; have := hk.out; have := H1.out; omega
        case rel => exact ⟨A2, n2, d2, l ++ l5, M5, S5, a ++ b5, c5, rfl, hown, hM6, hq6, ha6.out, h2, hml6.out, rfl, hb6⟩
      · obtain ⟨e1, e2⟩ := alive_end h3 h4
        have he0 := h3.live.err
        rw [he0] at k4
        have hfin : WholePost w F (.returned (.tuple #[.slice A2 n2 d2, .slice none 0 0, .int .i64 5])) wc := by
          refine ⟨A2, n2, d2, none, 0, 0, [], ?_, ?_, ⟨rfl, Rd.nil_⟩, fun e => by rw [e1] at e; simp at e, fun _ => rfl, fun x hx => (by simp at hx), hb6⟩
          · unfold endE
            rw [e1]; rfl
          · rw [e2, ha6.out, h2, List.append_nil]
            exact hown
        have HFIN := Lib.hid hfin
        clear hfin he0 e1 e2 h4 h2
        go_wp2_with fail
        go_returns
        exact HFIN.out
      · have hal := decr_len (.inr h4)
        rw [ha6.out, List.length_append, List.length_append] at hal
        obtain ⟨hne0, hne5⟩ := h4.ne
        rw [← h4.err] at hne0 hne5
        have hef : (S5.err == 0) = false := by simpa using hne0
        clear h2
        go_wp2_with fail
        go_roundg (F.1.all.length - (l ++ l5).length)
        case measure => rw [List.length_append]; have := hk.out; omega
        case rel => exact ⟨A2, n2, d2, l ++ l5, M5, S5, a ++ b5, c5, rfl, hown, hM6, hq6, ha6.out, .inr h4, hml6.out, rfl, hb6⟩
      · have hr0 : (r == 0) = false := by simpa using h0
        have hr5 : (r == 5) = false := by simpa using h5
        have hall : Hid (F.1.all = l ++ l5) := by show _ = _; rw [h10.all, ha6.out, h9, List.append_nil]
        by_cases hr8 : r = 8
        · have h8F : F.2 = 8 := by rw [← h6]; exact hr8
          have he8 : S5.err = 8 := by rw [h10.err]; exact h8F
          obtain ⟨hL8, hO8⟩ := h10.at8 h8F
          have hst8 := fin8 (s := start (bts b) m) (.start (Bit.bts b) m) (by rw [HF.out]; exact h8F)
          rw [HF.out] at hst8
          have hev := hO8.even (.inr (.inr hst8))
          have hx8 := hL8.x
          rw [← hx8, rb_length] at hev
          have hle8 := hM6.rdr.le
          have hrs := drest_done hM6.refl he8 (by omega)
          have hbx : Hid (bts (M5.B.drop (M5.a / 8)) = F.1.x) := by
            show _ = _
            rw [bts_drop, ← hx8]
            unfold rb
            rw [show 8 * (M5.a / 8) = M5.a by omega]
          have HRS := Lib.hid hrs
          have H8 := Lib.hid h8F
          clear hev hx8 hle8 hrs h8F he8 hst8 h6 h9 h7
          subst hr8
          go_wp2_with fail
          refine HRS.out.mono ?_
          rintro e w7 ⟨A7, k7, c7, rfl, ho7, c8, hM8, hD8⟩
          go_wp2_with fail
          go_returns
          refine ⟨A2, n2, d2, A7, k7, c7, M5.B.drop (M5.a / 8), ?_, ?_, ?_, fun _ => hbx.out, fun e => absurd H8.out e, fun x hx => hM6.rdr.by_ x (List.mem_of_mem_drop hx), hb6.trans hD8.1⟩
          · unfold endE
            rw [H8.out]; rfl
          · rw [hall.out]
            exact hD8.2.1.ownI hown (fun q h1 h2 => h2 (hq6 q h1))
          · exact ho7.rd
        · have hr8f : (r == 8) = false := by simpa using hr8
          have hfin : WholePost w F (.returned (.tuple #[.slice A2 n2 d2, .slice none 0 0, .int .i64 r])) wc := by
            refine ⟨A2, n2, d2, none, 0, 0, [], ?_, ?_, ⟨rfl, Rd.nil_⟩, fun e => absurd (h6.trans e) hr8, fun _ => rfl, fun x hx => (by simp at hx), hb6⟩
            · unfold endE
              rw [if_neg (by rw [← h6]; exact hr8), h6]
            · rw [hall.out]
              exact hown
          have HFIN := Lib.hid hfin
          clear hfin h6 h9 h7
          go_wp2_with fail
          go_returns
          exact HFIN.out
end
end Go.Proofs.Ytoegpffdbfkcpaa
