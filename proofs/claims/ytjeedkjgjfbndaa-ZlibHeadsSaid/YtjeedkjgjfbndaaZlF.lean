/-
  The walk of a zlib decoder's Take.
-/
import Derived.Test.YtjeedkjgjfbndaaZlE
namespace Go.Proofs.Ytjeedkjgjfbndaa
open Go.RowKit
set_option linter.unusedVariables false
theorem ZPh.pre {w : World} {b0 : Nat} {c : Nat → Nat} {x a : List Int} {Z : ZR} (h : ZPh w b0 c x a Z) : ∃ t, zAll x Z.m = a ++ t := by
  rcases h with ⟨_, _, _, _, q5, _⟩ | ⟨bI, gd, M, S, hp, hbI, hM, hz, ⟨p1, p2, p3, p4, p5, p6, p7, p8⟩ | ⟨p1, p2, p3, R, p4, p5, p6⟩⟩
  · exact ⟨zAll x Z.m, by rw [q5]; rfl⟩
  · obtain ⟨t, ht⟩ := p7.pre
    exact ⟨M.out ++ t, by unfold zAll; rw [if_neg (by rw [hz]; decide), ht, List.append_assoc]⟩
  · exact ⟨[], by unfold zAll; rw [if_neg (by rw [hz]; decide), List.append_nil]; exact p3.symm⟩
/-- the error it holds -/
def zOk (x a : List Int) (m : Nat) (en : Bool) (er : Int) : Prop := er = 0 ∨ (er = zE x m en ∧ a = zAll x m ∧ (er = 5 → en = true))
/-- between the rounds -/
def ZtR (w : World) (b0 g : Nat) (E : Nat → Prop) (x a : List Int) (m : Nat) (en : Bool) (n : Nat) (gk : Nat) (v6 v7 : Value) (wr : World) : Prop :=
  ∃ A k cp l e c Z, v6 = .slice A k cp ∧ v7 = .int .i64 e ∧ OwnI .u8 wr w.heap.size 5 A k cp l ∧ k ≤ n ∧ ZlC wr b0 g c Z ∧ ZPh wr (g + 1) c x (a ++ l) Z ∧ Z.m = m ∧ Z.en = en ∧ Z.sum = adlF 1 (a ++ l) ∧ Ext b0 w wr E (zX g c Z.A) ∧ (∀ q, blkOf A = some q → ¬ zX g c Z.A q) ∧
    zOk x (a ++ l) m en Z.err ∧ (e = 0 ∨ (e = zE x m en ∧ a ++ l = zAll x m ∧ (Z.err = e ∨ (Z.err = 0 ∧ e = 5)))) ∧ Hid (gk = if e = 0 then 3 * (n - k) + rkZ Z + 1 else 0)
/-- how it answers -/
def ZtE (x a : List Int) (m : Nat) (en : Bool) (n : Nat) (l : List Int) (r : Int) : Prop :=
  (∃ t, zAll x m = a ++ l ++ t) ∧ ((r = 0 ∧ l.length = n) ∨ (l.length < n ∧ a ++ l = zAll x m ∧ ((l ≠ [] ∧ r = 5) ∨ (l = [] ∧ r = zE x m en))))
def ZtPost (w : World) (b0 g : Nat) (E : Nat → Prop) (x a : List Int) (m : Nat) (en : Bool) (n : Nat) (e : Ending) (w' : World) : Prop :=
  ∃ A k cp l r E', e = .returned (.tuple #[.slice A k cp, .int .i64 r]) ∧ OwnI .u8 w' w.heap.size 5 A k cp l ∧ (∀ q, blkOf A = some q → ¬ E' q) ∧ ZSt w' b0 g E' x (a ++ l) m en false ∧ Ext b0 w w' E E' ∧ ZtE x a m en n l r
set_option maxRecDepth 100000 in
set_option maxHeartbeats 8000000 in
theorem ztake_any (w : World) (b0 g : Nat) (E : Nat → Prop) (x a : List Int) (m : Nat) (en hd : Bool) (h : ZSt w b0 g E x a m en hd) (hm : m ≤ 1000000000) (hxl : x.length ≤ 1000000000) (n : Nat) (hn : n ≤ 1000000000) :
    Calls Try.prog 7 #[.pointer (some ⟨g, 0, none⟩), .int .i64 n] w (ZtPost w b0 g E x a m en n) := by
  obtain ⟨i0, hi, hz0, hz1, hz2⟩ := info_parts rbyte_info
  have Hi := Lib.hid hi
  have Hz0 := Lib.hid hz0
  have Hz1 := Lib.hid hz1
  have Hz2 := Lib.hid hz2
  have hnI : (0 : Int) ≤ n ∧ (n : Int) ≤ 1000000000 := by omega
  have HB := Lib.hid (⟨hm, hxl, hn⟩ : _ ∧ _ ∧ _)
  have HB0 := Lib.hid h.low
  have hinit : ∃ k, ZtR w b0 g E x a m en n k (.slice none 0 0) (.int .i64 0) w := by
    obtain ⟨c, Z, h1, h2, h3, h4, h5, rfl, h6, -⟩ := h
    exact ⟨_, none, 0, 0, [], 0, c, Z, rfl, rfl, OwnI.nil_, Nat.zero_le _, h1, by rw [List.append_nil]; exact h2, h3, h4, by rw [List.append_nil]; exact h5, Ext.refl _ _ _, fun q hq => by simp [blkOf] at hq, by rw [List.append_nil]; exact h6, .inl rfl, rfl⟩
  obtain ⟨k0, hinit⟩ := hinit
  have HI := Lib.hid hinit
  clear h hinit hi hz0 hz1 hz2 hm hxl hn
  go_enter Try.func7, Try.ntmps7
  go_wp2_with fail
  go_loopg [6, 7] k0 (ZtR w b0 g E x a m en n)
  case atStart => exact HI.out
  case round =>
    clear HI
    obtain ⟨A, k, cp, l, e, c, Z, rfl, rfl, ho, hkn, h1, h2, h3, h4, h5, hx, hA, hok, he, hg⟩ := hrel
    obtain ⟨-, -, -, -, -, -, k6, k7⟩ := h1.cells
    have z7 := h1.frz (i := 7) (by omega)
    have hkI : (k : Int) ≤ (n : Int) ∧ (0 : Int) ≤ k := by omega
    have hlen := ho.1
    by_cases hgo : k < n ∧ Z.err = 0 ∧ e = 0
    · obtain ⟨hk, herr, he0⟩ := hgo
      subst he0
      have hkI2 : (k : Int) < (n : Int) := by omega
      obtain ⟨J, hJ⟩ : ∃ J, n - k = J := ⟨_, rfl⟩
      have hJI : (n : Int) - (k : Int) = (J : Int) ∧ (0 : Int) < (J : Int) := by omega
      have hstep := zstep_any wr b0 g c Z x (a ++ l) h1 h2 h5 herr (by rw [h3]; exact HB.out.1) HB.out.2.1 J (by omega) (by have := HB.out.2.2; omega)
      have HS := Lib.hid hstep
      have HG := Lib.hid (⟨h3, h4, hx, hA, hlen, hJ, hkn, hk⟩ : _ ∧ _ ∧ _ ∧ _ ∧ _ ∧ _ ∧ _ ∧ _)
      have HO := Lib.hid ho
      have H1 := Lib.hid h1
      have HG2 : Hid (gk = 3 * (n - k) + rkZ Z + 1) := by have := hg.out; rw [if_pos rfl] at this; exact this
      rw [herr] at k7
      clear hstep h1 h2 h3 h4 h5 hx hA hok he ho hlen hJ hk k6 z7 herr hg
      go_wp2_with fail
      refine HS.out.mono ?_
      rintro e w5 ⟨A5, k5, d5, l5, r, c5, Z5, rfl, hr5, hl5, s1, s2, s3, s4, s5, s6, s7, hcs⟩
      obtain ⟨h3, h4, hx, hA, hlen, hJ, hkn, hk⟩ := HG.out
      have hk5 := hr5.1
      have hk5n : k + k5 ≤ n := by omega
      have hoL : OwnI .u8 w5 w.heap.size 5 A k cp l := s7.2.1.ownI HO.out (fun q hq => hA q hq)
      have hA5 : ∀ q, blkOf A = some q → ¬ zX g c5 Z5.A q := fun q hq h9 => by
        rcases s7.2.2 q h9 with h8 | h8
        · exact hA q hq h8
        · have := (HO.out.2.lt hq).2; omega
      have hw5 : w.heap.size ≤ w5.heap.size := Nat.le_trans hx.1.size s7.1.size
      have hE5 : Ext b0 w w5 E (zX g c5 Z5.A) := hx.trans s7
      rw [h3] at s3 hcs
      rw [h4] at s4 hcs
      have hb0w : b0 ≤ w.heap.size := HB0.out
      -- behind the append
      have hnx : Hid (∀ A6 c6 w6, OwnI .u8 w6 w.heap.size 5 A6 (k + k5) c6 (l ++ l5) → w5.grownBy w6 (blkOf A) → (blkOf A6 = blkOf A ∨ blkOf A6 = some w5.heap.size) →
          ZlC w6 b0 g c5 Z5 ∧ ZPh w6 (g + 1) c5 x (a ++ (l ++ l5)) Z5 ∧ Ext b0 w w6 E (zX g c5 Z5.A) ∧ ∀ q, blkOf A6 = some q → ¬ zX g c5 Z5.A q) := fun A6 c6 w6 ho6 hg6 hat6 => by
        have hc6 : Chg w5 w6 (fun q => blkOf A = some q) := (Chg.refl w5 _).grown hg6 fun q hq => .inl hq
        refine ⟨s1.chg hc6 (fun q hq => ⟨fun e9 => hA5 q hq (.inl e9), fun e9 => hA5 q hq (.inr (.inl e9))⟩) (fun q hq => ⟨(s1.cb q hq).1, Nat.lt_of_lt_of_le (s1.cb q hq).2 hc6.size⟩) s1.cg (fun q hq => (s1.cA q hq).2), ?_, ?_, fun q hq => ?_⟩
        · rw [← List.append_assoc]
          exact s2.aside hc6 (fun q hq => by
            by_cases e9 : c5 q = 0
            · exact e9
            · exact absurd (.inr (.inr e9)) (hA5 q hq)) ⟨rfl, rfl, rfl, rfl, rfl, rfl, rfl, rfl, rfl⟩
        · refine ⟨hE5.1.grown hg6 (Nat.le_trans hb0w hw5) (fun q hq => Nat.le_trans hb0w (hoL.2.lt hq).1), hE5.2.1.grown hg6 (fun q hq => .inr (hoL.2.lt hq).1), fun q hq => hE5.2.2 q hq⟩
        · rcases hat6 with e9 | e9
          · exact hA5 q (by rw [← e9]; exact hq)
          · rw [e9] at hq; injection hq with hq
            intro h9
            have := s1.xlt q h9
            omega
      have hkk : (k : Int) + (k5 : Int) ≤ (n : Int) := by omega
      have HC := Lib.hid hcs
      have HP := Lib.hid (⟨s3, s4, s5, s6, hk5, hlen, hk, hJ⟩ : _ ∧ _ ∧ _ ∧ _ ∧ _ ∧ _ ∧ _ ∧ _)
      have HHN := Lib.hid (⟨hk5n, hkn⟩ : _ ∧ _)
      have hk5N : k + k5 ≤ 1000000000 := by have := HB.out.2.2; omega
      clear hcs s1 s2 s3 s4 s5 s6 s7 hA5 hE5 hk5 hlen hJ hx hA h3 h4 hl5 hb0w
      have hr := HC.out
      clear HC
      rcases hr with ⟨rfl, hrk⟩ | ⟨hr0, hl0, hal, hrE⟩
      · have hms : Hid (3 * (n - (k + k5)) + rkZ Z5 + 1 < gk) := by
          show _ < gk
          rw [HG2.out]
          have := HP.out.2.2.2.2.1
          have := HHN.out
          rcases hrk with h | ⟨h, h'⟩ <;> omega
        clear hrk
        go_wp2_with (at_builtin; (refine wpList_app .u8 w.heap.size 5 i0 1 rfl (.tmp 35) (.tmp 36) _ rfl Try.underlying26 Hi.out Hz0.out Hz1.out Hz2.out rfl hoL rfl hr5 (by omega) (by omega) hw5 ?_)
                     intro A6 c6 w6 ho6 hg6 hat6
                     obtain ⟨n1, n2, n3, n4⟩ := hnx.out A6 c6 w6 ho6 hg6 hat6
                     obtain ⟨-, -, -, -, -, -, kk6, kk7⟩ := n1.cells
                     rw [HP.out.2.1] at kk6
                     rw [HP.out.2.2.1] at kk7
                     have zz7 := n1.frz (i := 7) (by omega))
        have HN1 := Lib.hid (⟨n1, n2, n3, n4, ho6⟩ : _ ∧ _ ∧ _ ∧ _ ∧ _)
        clear n1 n2 n3 n4 ho6 hg6 hat6 hnx hoL hr5
        go_roundg (3 * (n - (k + k5)) + rkZ Z5 + 1)
        case measure => exact hms.out
        case rel =>
          obtain ⟨n1, n2, n3, n4, ho6⟩ := HN1.out
          exact ⟨A6, k + k5, c6, l ++ l5, 0, c5, Z5, rfl, rfl, ho6, HHN.out.1, n1, n2, HP.out.1, HP.out.2.1, by rw [← List.append_assoc]; exact HP.out.2.2.2.1, n3, n4, .inl HP.out.2.2.1, .inl rfl, by show _ = _; rw [if_pos rfl]⟩
      · subst hl0
        have HR := Lib.hid (⟨hal, hrE⟩ : _ ∧ _)
        have hr0' : (r == 0) = false := by simpa using hr0
        have HR0 := Lib.hid hr0
        have hgk : Hid (0 < gk) := by show 0 < gk; rw [HG2.out]; omega
        clear hal hrE hr0
        by_cases hst : r = 5 ∧ en = false
        · obtain ⟨rfl, rfl⟩ := hst
          go_wp2_with (at_builtin; (refine wpList_app .u8 w.heap.size 5 i0 1 rfl (.tmp 35) (.tmp 36) _ rfl Try.underlying26 Hi.out Hz0.out Hz1.out Hz2.out rfl hoL rfl hr5 (by omega) (by omega) hw5 ?_)
                       intro A6 c6 w6 ho6 hg6 hat6
                       obtain ⟨n1, n2, n3, n4⟩ := hnx.out A6 c6 w6 ho6 hg6 hat6
                       obtain ⟨-, -, -, -, -, -, kk6, kk7⟩ := n1.cells
                       rw [HP.out.2.1] at kk6
                       rw [HP.out.2.2.1] at kk7
                       have zz7 := n1.frz (i := 7) (by omega))
          have HN1 := Lib.hid (⟨n1, n2, n3, n4, ho6⟩ : _ ∧ _ ∧ _ ∧ _ ∧ _)
          clear n1 n2 n3 n4 ho6 hg6 hat6 hnx hoL hr5
          go_roundg 0
          case measure => exact hgk.out
          case rel =>
            obtain ⟨n1, n2, n3, n4, ho6⟩ := HN1.out
            exact ⟨A6, k + k5, c6, l ++ [], 5, c5, Z5, rfl, rfl, ho6, HHN.out.1, n1, n2, HP.out.1, HP.out.2.1, by rw [← List.append_assoc]; exact HP.out.2.2.2.1, n3, n4, .inl HP.out.2.2.1, .inr ⟨HR.out.2, by rw [List.append_nil]; exact HR.out.1, .inr ⟨HP.out.2.2.1, rfl⟩⟩, by show _ = _; rw [if_neg (by decide)]⟩
        · have hst2 : (r ≠ 5) ∨ (r = 5 ∧ en = true) := by
            by_cases h5 : r = 5
            · right; refine ⟨h5, ?_⟩
              cases en with
              | true => rfl
              | false => exact absurd ⟨h5, rfl⟩ hst
            · exact .inl h5
          have hfin : Hid (∀ A6 c6 w6, OwnI .u8 w6 w.heap.size 5 A6 (k + k5) c6 (l ++ []) → ZlC w6 b0 g c5 Z5 → ZPh w6 (g + 1) c5 x (a ++ (l ++ [])) Z5 → Ext b0 w w6 E (zX g c5 Z5.A) → (∀ q, blkOf A6 = some q → ¬ zX g c5 Z5.A q) → (r = 5 → en = true) →
              ZtR w b0 g E x a m en n 0 (.slice A6 (k + k5) c6) (.int .i64 r) (w6.setCell ⟨g, 7, none⟩ (.int .i64 r))) := fun A6 c6 w6 ho6 n1 n2 n3 n4 hr5 => by
            have hcs : Chg w6 (w6.setCell ⟨g, 7, none⟩ (.int .i64 r)) (fun k => k = g) := Chg.setCell (S := fun k => k = g) (Chg.refl w6 _) (p := ⟨g, 7, none⟩) (.inl rfl) _
            refine ⟨A6, k + k5, c6, l ++ [], r, c5, { Z5 with err := r }, rfl, rfl, ho6.far (p := ⟨g, 7, none⟩) (fun e9 => n4 g e9 (.inl rfl)) _, HHN.out.1, n1.turn hcs ((n1.cell.set_ (i := 7) (by omega) _).congr (all8 rfl rfl rfl rfl rfl rfl rfl rfl)) ⟨rfl, rfl, rfl, rfl⟩ n1.sm, n2.aside hcs (fun q hq => by rw [hq]; exact n1.cg) ⟨rfl, rfl, rfl, rfl, rfl, rfl, rfl, rfl, rfl⟩, HP.out.1, HP.out.2.1, by rw [← List.append_assoc]; exact HP.out.2.2.2.1, n3.trans (Ext.of (hcs.more fun q hq => .inl hq) n1.xlo n1.low fun q hq => .inl hq), n4, ?_, .inr ⟨HR.out.2, by rw [List.append_nil]; exact HR.out.1, .inl rfl⟩, by show _ = _; rw [if_neg HR0.out]⟩
            exact .inr ⟨HR.out.2, by rw [List.append_nil]; exact HR.out.1, hr5⟩
          clear hst
          rcases hst2 with h5 | ⟨rfl, rfl⟩
          · have h5' : (r == 5) = false := by simpa using h5
            have hf2 : Hid (r = 5 → en = true) := fun e9 => absurd e9 h5
            have hr0n : ¬ r = 0 := HR0.out
            have h5n : ¬ r = 5 := h5
            clear h5
            go_wp2_with (at_builtin; (refine wpList_app .u8 w.heap.size 5 i0 1 rfl (.tmp 35) (.tmp 36) _ rfl Try.underlying26 Hi.out Hz0.out Hz1.out Hz2.out rfl hoL rfl hr5 (by omega) (by omega) hw5 ?_)
                         intro A6 c6 w6 ho6 hg6 hat6
                         obtain ⟨n1, n2, n3, n4⟩ := hnx.out A6 c6 w6 ho6 hg6 hat6
                         obtain ⟨-, -, -, -, -, -, kk6, kk7⟩ := n1.cells
                         rw [HP.out.2.1] at kk6
                         rw [HP.out.2.2.1] at kk7
                         have zz7 := n1.frz (i := 7) (by omega))
            have hz := Lib.hid (hfin.out A6 c6 w6 ho6 n1 n2 n3 n4 hf2.out)
            clear n1 n2 n3 n4 ho6 hg6 hat6 hnx hoL hr5 hfin
            go_roundg 0
            case measure => exact hgk.out
            case rel => exact hz.out
          · go_wp2_with (at_builtin; (refine wpList_app .u8 w.heap.size 5 i0 1 rfl (.tmp 35) (.tmp 36) _ rfl Try.underlying26 Hi.out Hz0.out Hz1.out Hz2.out rfl hoL rfl hr5 (by omega) (by omega) hw5 ?_)
                         intro A6 c6 w6 ho6 hg6 hat6
                         obtain ⟨n1, n2, n3, n4⟩ := hnx.out A6 c6 w6 ho6 hg6 hat6
                         obtain ⟨-, -, -, -, -, -, kk6, kk7⟩ := n1.cells
                         rw [HP.out.2.1] at kk6
                         rw [HP.out.2.2.1] at kk7
                         have zz7 := n1.frz (i := 7) (by omega))
            have hz := Lib.hid (hfin.out A6 c6 w6 ho6 n1 n2 n3 n4 (by first | exact fun _ => rfl | exact fun _ => trivial | simp))
            clear n1 n2 n3 n4 ho6 hg6 hat6 hnx hoL hr5 hfin
            go_roundg 0
            case measure => exact hgk.out
            case rel => exact hz.out
    · have hpre := h2.pre
      rw [h3] at hpre
      obtain ⟨t, ht⟩ := hpre
      have hst : Hid (ZSt wr b0 g (zX g c Z.A) x (a ++ l) m en false) := ⟨c, Z, h1, h2, h3, h4, h5, rfl, hok, fun h => by simp at h⟩
      have hres : Hid (∀ r, ((r = 0 ∧ l.length = n) ∨ (l.length < n ∧ a ++ l = zAll x m ∧ ((l ≠ [] ∧ r = 5) ∨ (l = [] ∧ r = zE x m en)))) → ZtPost w b0 g E x a m en n (.returned (.tuple #[.slice A k cp, .int .i64 r])) wr) := fun r hr => ⟨A, k, cp, l, r, _, rfl, ho, hA, hst.out, hx, ⟨t, by rw [ht]⟩, hr⟩
      have HL := Lib.hid (⟨hlen, hok, he, hx, ⟨t, by rw [ht]⟩⟩ : k = l.length ∧ zOk x (a ++ l) m en Z.err ∧ (e = 0 ∨ (e = zE x m en ∧ a ++ l = zAll x m ∧ (Z.err = e ∨ (Z.err = 0 ∧ e = 5)))) ∧ Ext b0 w wr E (zX g c Z.A) ∧ ∃ t, zAll x m = a ++ l ++ t)
      obtain ⟨er, her⟩ : ∃ er, Z.err = er := ⟨_, rfl⟩
      rw [her] at k7
      have HER := Lib.hid her
      clear h1 h2 h3 h4 h5 hA hok he ho hx hlen k6 z7 ht
      by_cases hk : k < n
      · have hkI2 : (k : Int) < (n : Int) := by omega
        have hkd : decide (n ≤ k) = false := decide_eq_false (by omega)
        by_cases her0 : er = 0
        · have he0 : ¬ e = 0 := fun h => hgo ⟨hk, her.trans her0, h⟩
          have he0' : (e == 0) = false := by simpa using he0
          have hfacts := (HL.out.2.2.1).resolve_left he0
          have he5 : e = 5 := by
            rcases hfacts.2.2 with h | ⟨_, h⟩
            · rw [HER.out, her0] at h; exact absurd h.symm he0
            · exact h
          have hf : Hid (ZtPost w b0 g E x a m en n (.returned (.tuple #[.slice A k cp, .int .i64 5])) wr) := hres.out 5 (.inr ⟨by rw [← HL.out.1]; exact hk, hfacts.2.1, by
            by_cases hl : l = []
            · exact .inr ⟨hl, by rw [← hfacts.1]; exact he5.symm⟩
            · exact .inl ⟨hl, rfl⟩⟩)
          subst her0
          clear hfacts he5 hgo her hres he0 HER hg
          by_cases hk0 : 0 < k
          · have hk0I : (0 : Int) < (k : Int) := by omega
            go_wp2_with fail
            go_returns
            exact hf.out
          · have hk0I : ¬ (0 : Int) < (k : Int) := by omega
            have hk0d : decide (0 < k) = false := decide_eq_false hk0
            go_wp2_with fail
            go_returns
            exact hf.out
        · have her0' : (er == 0) = false := by simpa using her0
          have hfacts : er = zE x m en ∧ a ++ l = zAll x m := by
            rcases HL.out.2.1 with h | ⟨h, h', _⟩
            · rw [HER.out] at h; exact absurd h her0
            · rw [HER.out] at h; exact ⟨h, h'⟩
          by_cases hk0 : 0 < k
          · have hk0I : (0 : Int) < (k : Int) := by omega
            have hf : Hid (ZtPost w b0 g E x a m en n (.returned (.tuple #[.slice A k cp, .int .i64 5])) wr) := hres.out 5 (.inr ⟨by rw [← HL.out.1]; exact hk, hfacts.2, .inl ⟨fun h => by have := HL.out.1; rw [h] at this; simp at this; omega, rfl⟩⟩)
            clear hfacts hgo her hres her0 HER hg
            go_wp2_with fail
            go_returns
            exact hf.out
          · have hk0I : ¬ (0 : Int) < (k : Int) := by omega
            have hk0d : decide (0 < k) = false := decide_eq_false hk0
            have hl0 : l = [] := List.eq_nil_of_length_eq_zero (by rw [← HL.out.1]; omega)
            have hf : Hid (∀ q, ZtPost w b0 g E x a m en n (.returned (.tuple #[.slice none 0 0, .int .i64 er])) (wr.drewN q)) := fun q => by
              have hbq : Below wr.heap.size wr (wr.drewN q) := (Chg.drewN (Chg.refl wr (fun _ => False)) q).below (fun _ h => h.elim) (Nat.le_refl _)
              refine ⟨none, 0, 0, [], er, _, rfl, OwnI.nil_, fun q hq => by simp [blkOf] at hq, ?_, HL.out.2.2.2.1.trans ⟨(Chg.drewN (Chg.refl wr (fun _ => False)) q).below (fun _ h => h.elim) hst.out.low, Chg.drewN (Chg.refl _ _) q, fun k hk => .inl hk⟩, ?_, .inr ⟨by simp; omega, by rw [← hl0]; exact hfacts.2, .inr ⟨rfl, hfacts.1⟩⟩⟩
              · have := hst.out.keeps hbq; rw [hl0] at this; exact this
              · have := HL.out.2.2.2.2; rw [hl0] at this; exact this
            clear hfacts hgo her hres her0 HER hl0 hg
            go_wp2_with fail
            go_quiet (fail)
            go_wp2_with fail
            go_returns
            exact hf.out _
      · obtain rfl : k = n := by omega
        have hkI2 : ¬ (k : Int) < (k : Int) := by omega
        have hkd : decide (k < k) = false := decide_eq_false (by omega)
        have hf : Hid (ZtPost w b0 g E x a m en k (.returned (.tuple #[.slice A k cp, .int .i64 0])) wr) := hres.out 0 (.inl ⟨rfl, HL.out.1.symm⟩)
        clear hgo her hres HER hk hg
        go_wp2_with fail
        go_returns
        exact hf.out
end Go.Proofs.Ytjeedkjgjfbndaa
