/-
  The walk of the law BlockMeans.
-/
import Derived.Test.YtckhkkjdibcclaaPk27
import Derived.Test.YtckhkkjdibcclaaRfF
import Derived.Test.YtckhkkjdibcclaaPk5
import Derived.Test.YtckhkkjdibcclaaPk9
import Derived.Test.YtckhkkjdibcclaaBkC
namespace Go.Proofs.Ytckhkkjdibcclaa
open Go.RowKit
set_option linter.unusedVariables false
set_option maxRecDepth 100000 in
theorem sound10_any (w : World) (A : Option Addr) (n c : Nat) (l : List Tok) (hr : RdT w w.heap.size A n l) (hn : (n : Int) ≤ 1000000000000) :
    Calls Try.prog 7 #[.slice A n c] w fun e w' => e = .returned (.bool (decide ((expand [] l).1 = 0))) ∧ Below w.heap.size w w' := by
  have HE := Lib.hid (rexpand_any w A n c l hr hn)
  clear hr
  go_enter Try.func7, Try.ntmps7
  go_wp2_with fail
  refine HE.out.mono ?_
  rintro e w1 ⟨A1, n1, c1, rfl, ho, hb⟩
  have HB := Lib.hid hb
  clear ho hb
  go_wp2_with fail
  go_ret
  exact ⟨ret_bool (by rw [Bool.eq_iff_iff]; simp), HB.out⟩
theorem bits_bel (w : World) (b0 g n c : Nat) (A : Option Addr) (L : List Int) (hw : Wtr w b0 g A n c L) (hlen : L.length ≤ 4000000000000) :
    Calls Try.prog 17 #[.pointer (some ⟨g, 0, none⟩)] w fun e w' => e = .returned (.int .i64 L.length) ∧ Below w.heap.size w w' :=
  (wtrBits_any w b0 g n c A L hw hlen).mono fun e w' h => ⟨h.1, by obtain ⟨q, rfl⟩ := h.2; exact bel_drewN (Below.refl _ w) q⟩
theorem expand_sound {l : List Tok} : ∀ {out : List Int}, (expand out l).1 = 0 → ∀ t ∈ l, soundT t := by
  induction l with
  | nil => intro out _ t ht; simp at ht
  | cons k l ih =>
    intro out h t ht
    rw [expand_cons] at h
    by_cases h0 : (step out k).1 = 0
    · rw [if_pos h0] at h
      rcases List.mem_cons.1 ht with rfl | ht
      · unfold step at h0
        by_cases hs : soundT t
        · exact hs
        · rw [if_pos hs] at h0; simp at h0
      · exact ih h t ht
    · rw [if_neg h0] at h; exact absurd h h0
/-- so many stored blocks of nothing -/
def preL : Nat → List Int
  | 0 => []
  | k + 1 => outB 0 [] [] false (preL k)
theorem preL_len : ∀ k, (preL k).length = 40 * k
  | 0 => rfl
  | k + 1 => by
    have h := out_len (kind := 0) (l := []) (raw := []) (L := preL k) (last := false) (by decide) (fun t ht => by simp at ht) (fun _ => by rw [preL_len k]; omega)
    have hc : costB 0 [] ([] : List Int).length = 40 := rfl
    rw [hc, preL_len k] at h
    show (outB 0 [] [] false (preL k)).length = _
    omega
theorem preL_reads (M : Nat) : ∀ k, ∃ stops, Reads M (preL k) [] (List.replicate k 0) stops []
  | 0 => ⟨[], Reads.nil M⟩
  | k + 1 => by
    obtain ⟨st, h⟩ := preL_reads M k
    have h2 := h.next (kind := 0) (l := []) (raw := []) (by decide) (fun x hx => by simp at hx) (fun t ht => by simp at ht) (fun h => absurd rfl h) (by unfold blkAll; simp)
    have e1 : blkAll 0 [] [] [] = [] := by unfold blkAll; simp
    rw [e1] at h2
    have e2 : List.replicate (k + 1) (0 : Int) = List.replicate k 0 ++ [0] := List.replicate_succ'
    have e3 : ([] : List Tok) ++ (if (0 : Int) = 0 then [] else []) = [] := by simp
    rw [e3, ← e2] at h2
    exact ⟨_, h2⟩
/-- what the law's stream is -/
theorem means_law {kind : Int} {toks : List Tok} {raw : List Int} {a : Nat} (hm : bkMay kind toks raw.length = true) (hby : ∀ x ∈ raw, 0 ≤ x ∧ x < 256) (hlit : ∀ t ∈ toks, 0 ≤ t.lit ∧ t.lit < 256) (he : (expand [] toks).1 = 0) :
    ∃ t, (start (evn (outB kind toks raw true (preL a))) 16777216).fin = (t, 8) ∧ t.x = [] ∧ t.all = (if kind = 0 then raw else (expand [] toks).2) ∧ t.kinds = List.replicate a 0 ++ [kind] ∧ t.toks = (if kind = 0 then [] else toks) := by
  obtain ⟨st, h⟩ := preL_reads 16777216 a
  have hall : blkAll kind toks raw [] = if kind = 0 then raw else (expand [] toks).2 := by unfold blkAll; rw [List.nil_append]
  have hle : (blkAll kind toks raw []).length ≤ 16777216 := by
    rw [hall]
    split
    · rename_i h0
      subst h0
      unfold bkMay at hm
      rw [if_pos rfl] at hm
      have := of_decide_eq_true hm
      omega
    · exact expand_le (by simp)
  obtain ⟨t, h1, h2, h3, h4, _, h6⟩ := (h.fin hm hby hlit (fun _ => he) hle).fin
  exact ⟨t, h1, h2, h3.trans hall, h4, by rw [h6, List.nil_append]⟩
theorem cost_bd {kind : Int} {l : List Tok} {m : Nat} (hm : bkMay kind l m = true) (hlit : ∀ t ∈ l, 0 ≤ t.lit ∧ t.lit < 256) : 0 ≤ costB kind l m ∧ costB kind l m ≤ 60000000 := by
  by_cases h0 : kind = 0
  · subst h0
    unfold costB
    rw [if_pos rfl]
    unfold bkMay at hm
    rw [if_pos rfl] at hm
    have := of_decide_eq_true hm
    omega
  · have hl : l.length < 1048576 ∧ (∀ t ∈ l, soundT t) ∧ (kind = 1 ∨ kind = 2) := by
      unfold bkMay at hm
      rw [if_neg h0] at hm
      by_cases h : ¬ (kind = 1 ∨ kind = 2) ∨ 1048576 ≤ l.length
      · rw [if_pos h] at hm; exact absurd hm (by decide)
      · rw [if_neg h, List.all_eq_true] at hm
        exact ⟨by omega, fun t ht => of_decide_eq_true (hm t ht), by omega⟩
    have hm' : bkMay kind l ([] : List Int).length = true := by
      unfold bkMay at hm ⊢
      rw [if_neg h0] at hm ⊢
      exact hm
    have ho := out_len (L := []) (raw := []) (last := false) hm' hlit (fun h => absurd h h0)
    have hc : costB kind l ([] : List Int).length = costB kind l m := by unfold costB; rw [if_neg h0, if_neg h0]
    rw [hc] at ho
    have hb : ∀ lit dist : List Int, checkOf lit 15 = 0 → checkOf dist 15 = 0 → (blkB lit dist l).length ≤ 48 * l.length + 15 := fun lit dist h1 h2 => by
      have h3 := toks_le (check_ok' h1).2.1 (check_ok' h2).2.1 l hl.2.1
      have h4 := sym_le (check_ok' h1).2.1 256
      unfold blkB
      rw [List.length_append]; omega
    have hp := planB_le hl.1
    have h1 := hb fixL fixD fix_ok.1 fix_ok.2
    have h2 := hb (plLit l) (plDist l) (plLit_check hl.1) (plDist_check hl.1)
    have hlen : (outB kind l [] false []).length ≤ 60000000 := by
      unfold outB
      rw [if_neg h0]
      split
      · rw [List.length_append, hd3_len, List.length_nil]; omega
      · rw [List.length_append, List.length_append, hd3_len, List.length_nil]; omega
    simp only [List.length_nil] at ho
    omega
/-- a writer of the law's own: nothing else lies in its blocks -/
structure LwS (w w2 wx : World) (b0 g : Nat) (L : List Int) : Prop where
  bk : BkS w2 wx b0 g none L
  lo : w.heap.size ≤ w2.heap.size
  bel : Below w.heap.size w w2
  glo : w.heap.size ≤ g
section
variable {w w2 wx w' : World} {b0 g : Nat} {L L' : List Int}
theorem LwS.below (h : LwS w w2 wx b0 g L) : Below w.heap.size w wx := h.bel.trans (h.bk.chg.below (fun k hk => by
  rcases hk with hk | hk
  · rw [hk]; exact h.glo
  · simp [blkOf] at hk) h.lo)
theorem LwS.keeps (h : LwS w w2 wx b0 g L) (hb : Below wx.heap.size wx w') : LwS w w2 w' b0 g L := ⟨h.bk.keeps hb, h.lo, h.bel, h.glo⟩
theorem LwS.get (h : LwS w w2 wx b0 g L) : ∃ A n c, Wtr wx b0 g A n c L ∧ (∀ k, foot A g k → w.heap.size ≤ k) ∧ ∀ (W : World) (L' : List Int), BkS wx W b0 g A L' → LwS w w2 W b0 g L' := by
  obtain ⟨⟨A, n, c, h1, h2⟩, h3⟩ := h.bk
  refine ⟨A, n, c, h1, fun k hk => ?_, fun W L' hb => ⟨BkS.step h3 h2 hb, h.lo, h.bel, h.glo⟩⟩
  rcases hk with hk | hk
  · rw [hk]; exact h.glo
  · rcases h2 k hk with h4 | h4
    · simp [blkOf] at h4
    · exact Nat.le_trans h.lo h4
end
theorem BkS.of {w w' : World} {b0 g : Nat} {A : Option Addr} {L : List Int} {A' : Option Addr} {n' c' : Nat} (hw : Wtr w' b0 g A' n' c' L) (hc : Chg w w' (foot A g)) (hA : ∀ k, blkOf A' = some k → blkOf A = some k ∨ w.heap.size ≤ k) : BkS w w' b0 g A L := ⟨⟨A', n', c', hw, hA⟩, hc⟩
set_option maxRecDepth 100000 in
set_option maxHeartbeats 4000000 in
theorem bmeans_law (kind : Int) (At : Option Addr) (nt ct : Nat) (toks : List Tok) (C : Option Addr) (m cr : Nat) (raw : List Int) (ahead : Int) (w : World) (hTT : RdT w w.heap.size At nt toks ∧ nt ≤ maxLen) (hlit : ∀ t ∈ toks, 0 ≤ t.lit ∧ t.lit < 256) (hr : RdI .u8 w w.heap.size C m raw) (hm : m ≤ maxLen) (hby : ∀ x ∈ raw, 0 ≤ x ∧ x < 256) (hah : 0 ≤ ahead ∧ ahead < 256) :
    Calls Try.prog 4 #[.int .i64 kind, .slice At nt ct, .slice C m cr, .int .u8 ahead] w fun e w' => e = .returned (.bool true) ∧ Below w.heap.size w w' := by
  obtain ⟨hT, hnt⟩ := hTT
  have hnI : (nt : Int) ≤ 9223372036854775807 ∧ (0 : Int) ≤ nt := by unfold maxLen at hnt; omega
  have hmI : (m : Int) ≤ 9223372036854775807 ∧ (0 : Int) ≤ m := by unfold maxLen at hm; omega
  have HH := Lib.hid (⟨hT, hlit, hr, hby, hah, hr.1, hT.1⟩ : _ ∧ _ ∧ _ ∧ _ ∧ _ ∧ _ ∧ _)
  clear hT hlit hr hby hah hnt hm
  by_cases hbig : 400 < nt
  · have hbigI : (400 : Int) < (nt : Int) := by omega
    go_enter Try.func4, Try.ntmps4
    go_wp2_with fail
    refine (answers10_any w).mono ?_
    rintro e w1 ⟨rfl, hb⟩
    go_wp2_with fail
    go_ret
    exact ⟨rfl, hb⟩
  by_cases hbigr : 70000 < m
  · have hbigI : decide ((400 : Int) < (nt : Int)) = false := by simp; omega
    have hbigI2 : (70000 : Int) < (m : Int) := by omega
    go_enter Try.func4, Try.ntmps4
    go_wp2_with fail
    refine (answers10_any w).mono ?_
    rintro e w1 ⟨rfl, hb⟩
    go_wp2_with fail
    go_ret
    exact ⟨rfl, hb⟩
  have hbigI : decide ((400 : Int) < (nt : Int)) = false := by simp; omega
  have hbigI2 : decide ((70000 : Int) < (m : Int)) = false := by simp; omega
  have HSN := Lib.hid (sound10_any w At nt ct toks HH.out.1 (by omega))
  by_cases he : (expand [] toks).1 = 0
  · have hd : Hid (decide ((expand [] toks).1 = 0) = true) := decide_eq_true he
    have HE := Lib.hid he
    have HSO := Lib.hid (expand_sound he)
    obtain ⟨a, ha⟩ : ∃ a : Nat, ahead % 3 = (a : Int) := ⟨(ahead % 3).toNat, by have := HH.out.2.2.2.2.1; omega⟩
    have haI : (0 : Int) ≤ (a : Int) ∧ (a : Int) ≤ 2 := by omega
    have hahI := HH.out.2.2.2.2.1
    clear he
    go_enter Try.func4, Try.ntmps4
    go_wp2_with fail
    refine HSN.out.mono ?_
    rintro e w1 ⟨rfl, hb1⟩
    rw [hd.out]
    have HB1 := Lib.hid hb1
    clear hb1
    go_wp2_with fail
    refine (wtrNew_any w1).mono ?_
    rintro e w2 ⟨g, rfl, hw2, hb2⟩
    have HS0 : Hid (LwS w w2 w2 w1.heap.size g (preL 0)) := ⟨BkS.start hw2 (Below.refl _ _) , Nat.le_trans HB1.out.size hb2.size, HB1.out.trans (hb2.mono HB1.out.size), Nat.le_trans HB1.out.size hw2.lo⟩
    clear hw2 hb2
    obtain ⟨b0, hb0⟩ : ∃ b, w1.heap.size = b := ⟨_, rfl⟩
    rw [hb0] at HS0
    clear hb0
    go_wp2_with fail
    go_loopg [10] a (fun (gk : Nat) (v10 : Value) wx => ∃ k : Nat, v10 = .int .i64 k ∧ k ≤ a ∧ Hid (LwS w w2 wx b0 g (preL k)) ∧ Hid (gk = a - k))
    case atStart => exact ⟨0, rfl, Nat.zero_le _, HS0.out, rfl⟩
    case round =>
      clear HS0
      obtain ⟨k, rfl, hk, hs, hg⟩ := hrel
      by_cases hlt : k < a
      · have hkI : (k : Int) < (a : Int) ∧ (0 : Int) ≤ (k : Int) := by omega
        obtain ⟨A, n, c, hw, hft, hnx⟩ := hs.out.get
        have hkw := wkind_any wr b0 g n c A _ hw 0 none 0 0 [] ⟨rfl, fun h => absurd h (by decide)⟩ (by decide) (fun h => absurd h (by decide)) (fun t ht => by simp at ht) none 0 0 [] ⟨rfl, fun h => absurd h (by decide)⟩ (fun h => absurd h (by decide)) (fun x hx => by simp at hx) false (by decide) (by rw [preL_len]; omega)
        have HKW := Lib.hid hkw
        have HNX := Lib.hid (hnx)
        have HLT := Lib.hid hlt
        clear hw hft hnx hkw hs hlt
        go_wp2_with fail
        refine HKW.out.mono ?_
        rintro e w5 ⟨rfl, h5⟩
        have H5 := Lib.hid (HNX.out _ _ h5)
        clear h5
        go_wp2_with fail
        go_roundg (a - (k + 1))
        case measure => have := hg.out; have := HLT.out; omega
        case rel => exact ⟨k + 1, by go_num, HLT.out, H5.out, rfl⟩
      · obtain rfl : k = a := by omega
        have hkI : ¬ (k : Int) < (k : Int) := by omega
        clear hlt hg
        obtain ⟨A, n, c, hw, hft, hnx⟩ := hs.out.get
        have HBT := Lib.hid (bits_bel wr b0 g n c A _ hw (by rw [preL_len]; omega))
        clear hw hft hnx
        go_wp2_with fail
        refine HBT.out.mono ?_
        rintro e w3 ⟨rfl, hb3⟩
        have HS3 := Lib.hid (hs.out.keeps hb3)
        clear hb3 hs HBT
        rw [preL_len]
        have hT3 := HH.out.1.below HS3.out.below
        have hsz3 := HS3.out.below.size
        have hn400 : toks.length ≤ 400 := by have := HH.out.2.2.2.2.2.2; omega
        have hk12 : ∀ q : Int, q = 1 ∨ q = 2 → bkMay q toks m = true := fun q hq => by
          unfold bkMay
          rw [if_neg (by omega), if_neg (by omega), List.all_eq_true]
          exact fun t ht => decide_eq_true (HSO.out t ht)
        have hkx : ∀ q : Int, ¬ (q = 0 ∨ q = 1 ∨ q = 2) → bkMay q toks m = false := fun q hq => by
          unfold bkMay
          rw [if_neg (by omega), if_pos (by omega)]
        have hk0 : bkMay 0 toks m = decide (m ≤ 65535) := by unfold bkMay; rw [if_pos rfl]
        have HK := Lib.hid (⟨hk12, hkx, hk0⟩ : _ ∧ _ ∧ _)
        by_cases hmb : bkMay kind toks m = true
        · have hml := HH.out.2.2.2.2.2.1
          obtain ⟨A, n, c, hw, hft, hnx⟩ := HS3.out.get
          have hsp : ∀ (B : Option Addr), (∀ ad, B = some ad → ad.block < w.heap.size) → ∀ ad, B = some ad → ¬ foot A g ad.block := fun B hB ad e hk => by have h1 := hB ad e; have h2 := hft _ hk; omega
          have hWK := wkind_any w3 b0 g n c A _ hw kind At nt ct toks (hT3.more hsz3) (by omega) (fun h0 => hsp At fun ad e => by
            obtain ⟨ad', e', hb', _⟩ := HH.out.1.2 h0
            rw [e] at e'; injection e' with e'; rw [e']; exact hb') HH.out.2.1 C m cr raw ((HH.out.2.2.1.below HS3.out.below).more hsz3) (fun h0 => hsp C fun ad e => by
            obtain ⟨ad', e', hb', _⟩ := HH.out.2.2.1.2 h0
            rw [e] at e'; injection e' with e'; rw [e']; exact hb') HH.out.2.2.2.1 true hmb (by rw [preL_len]; omega)
          have hmr : bkMay kind toks raw.length = true := by rw [← hml]; exact hmb
          have hol := out_len (L := preL k) (last := true) hmr HH.out.2.1 (fun _ => by rw [preL_len]; omega)
          rw [preL_len, ← hml] at hol
          obtain ⟨t, t1, t2, t3, t4, t5⟩ := means_law (a := k) hmr HH.out.2.2.2.1 HH.out.2.1 HE.out
          obtain ⟨L1, hL1⟩ : ∃ L, outB kind toks raw true (preL k) = L := ⟨_, rfl⟩
          rw [hL1] at hWK hol t1
          have hbit : Bit L1 := by rw [← hL1]; obtain ⟨_, hR⟩ := preL_reads 0 k; exact hR.1.out _ _ _ _
          have hcb : 0 ≤ costB kind toks m ∧ costB kind toks m ≤ 60000000 := cost_bd hmb HH.out.2.1
          obtain ⟨cst, hcst⟩ : ∃ c, costB kind toks m = c := ⟨_, rfl⟩
          rw [hcst] at hol hcb
          obtain ⟨want, hwant⟩ : ∃ W, (if kind = 0 then raw else (expand [] toks).2) = W := ⟨_, rfl⟩
          rw [hwant] at t3
          have HWT : Hid ((kind = 0 → raw = want) ∧ (kind ≠ 0 → (expand [] toks).2 = want)) := ⟨fun h => by rw [← hwant, if_pos h], fun h => by rw [← hwant, if_neg h]⟩
          have t6 : kind ≠ 0 → t.toks = toks := fun h => by rw [t5, if_neg h]
          have HT5 := Lib.hid (⟨t1, t2, t3, t4, t6⟩ : _ ∧ _ ∧ _ ∧ _ ∧ _)
          have HWK := Lib.hid hWK
          have HNX := Lib.hid hnx
          have HMB := Lib.hid (⟨hmb, hcst, hol, hbit⟩ : _ ∧ _ ∧ _ ∧ _)
          clear hT3 hsz3 hn400 hk12 hkx hk0 hmb hw hft hnx hsp hWK hmr t1 t2 t3 t4 t5 t6 hL1 hbit hcst hol hml hwant
          go_wp2_with fail
          refine HWK.out.mono ?_
          rintro e w4 ⟨rfl, h4⟩
          have HS4 := Lib.hid (HNX.out _ _ h4)
          clear h4
          go_upto_region 10 with fail
          go_cut [13] (fun v13 wx => v13 = .bool true ∧ wx = w4)
          case first =>
            have hcs : kind = 0 ∨ kind = 1 ∨ kind = 2 := by
              rcases Decidable.em (kind = 0 ∨ kind = 1 ∨ kind = 2) with h | h
              · exact h
              · have h1 := HK.out.2.1 kind h; rw [HMB.out.1] at h1; exact absurd h1 (by decide)
            rcases hcs with rfl | rfl | rfl
            · have hmN : (m : Int) ≤ 65535 := by have h1 := HMB.out.1; rw [HK.out.2.2] at h1; have := of_decide_eq_true h1; omega
              go_wp2_with fail
              all_goals go_meet
              all_goals exact ⟨rfl, rfl⟩
            · go_wp2_with fail
              all_goals go_meet
              all_goals exact ⟨rfl, rfl⟩
            · go_wp2_with fail
              all_goals go_meet
              all_goals exact ⟨rfl, rfl⟩
          case rest =>
            obtain ⟨rfl, hwx⟩ := hcut
            obtain rfl := hwx.symm
            have hCO := bcost_any w4 kind At nt ct toks ((HH.out.1.below HS4.out.below).more HS4.out.below.size) (by omega) HH.out.2.1 C m cr
            rw [if_pos HMB.out.1, HMB.out.2.1] at hCO
            have HCO := Lib.hid hCO
            clear hCO
            go_wp2_with fail
            refine HCO.out.mono ?_
            rintro e w5 ⟨rfl, hb5⟩
            have HS5 := Lib.hid (HS4.out.keeps hb5)
            clear hb5
            go_wp2_with fail
            refine (answers10_any w5).mono ?_
            rintro e w6 ⟨rfl, hb6⟩
            have HS6 := Lib.hid (HS5.out.keeps hb6)
            clear hb6
            obtain ⟨A6, n6, c6, hw6, hft6, hnx6⟩ := HS6.out.get
            have HBT := Lib.hid (bits_bel w6 b0 g n6 c6 A6 _ hw6 (by have := HMB.out.2.2.1; omega))
            clear hw6 hft6 hnx6
            go_wp2_with fail
            refine HBT.out.mono ?_
            rintro e w7 ⟨rfl, hb7⟩
            have HS7 := Lib.hid (HS6.out.keeps hb7)
            clear hb7
            rw [HMB.out.2.2.1]
            have hL1b : (L1.length : Int) ≤ 61000000 := by have := HMB.out.2.2.1; omega
            obtain ⟨A7, n7, c7, hw7, hft7, hnx7⟩ := HS7.out.get
            have HAL := Lib.hid (wtrAlign_any w7 b0 g n7 c7 A7 _ hw7 (by omega))
            have HNX7 := Lib.hid hnx7
            clear hw7 hft7 hnx7
            go_wp2_with fail
            refine HAL.out.mono ?_
            rintro e w8 ⟨A8, n8, c8, rfl, hw8, hc8, hA8⟩
            have HS8 := Lib.hid (HNX7.out _ _ (BkS.of hw8 hc8 hA8))
            have HTK := Lib.hid (wtrTake_any w8 b0 g n8 c8 A8 _ hw8)
            clear hw8 hc8 hA8
            go_wp2_with fail
            refine HTK.out.mono ?_
            rintro e w9 ⟨rfl, ho9, hw9, hc9⟩
            obtain ⟨bb, hbb⟩ : ∃ b, byt (evn L1) = b := ⟨_, rfl⟩
            have hev := even_bts (evn_even L1) (Bit.evn HMB.out.2.2.2)
            rw [hbb] at hev ho9
            have hby9 := byt_bd (Bit.evn HMB.out.2.2.2)
            rw [hbb] at hby9
            have hlen9 : bb.length ≤ 10000000 := by rw [← hbb, byt_length, evn_length]; omega
            have HB9 : Hid (Below w.heap.size w w9) := HS8.out.below.trans (hc9.below (fun k hk => by rw [hk]; exact HS8.out.glo) HS8.out.below.size)
            have hri := rinflate_any w9 w9.heap.size A8 n8 c8 bb ho9.rd (Nat.le_refl _) hby9 (by omega) 16777216 16777216 (by decide) (by decide) (t, 8) (by rw [hev]; exact HT5.out.1)
            have HRI := Lib.hid hri
            have HN8 := Lib.hid (⟨ho9.1, hlen9⟩ : _ ∧ _)
            have hn8I : (0 : Int) ≤ (n8 : Int) ∧ (n8 : Int) ≤ 10000000 := by have := ho9.1; omega
            clear ho9 hw9 hc9 hbb hev hby9 hlen9 hri HTK HS8
            go_wp2_with fail
            refine HRI.out.mono ?_
            rintro e w10 ⟨gs, col, R, rfl, hM, hbM, hE, hout, hkd, hst, htk, hrest⟩
            have hE0 : R.E = 0 := hE
            have hrest2 := hrest rfl
            have HM := Lib.hid (⟨hM, hbM, hE0, hout, hkd, htk, hrest2⟩ : _ ∧ _ ∧ _ ∧ _ ∧ _ ∧ _ ∧ _)
            clear hM hbM hE hout hkd hst htk hrest hE0 hrest2
            go_upto_if 106 with fail
            go_cut [17] (fun v17 wx => ∃ Aw nw cw, v17 = .slice Aw nw cw ∧ RdI .u8 wx wx.heap.size Aw nw want ∧ Below w10.heap.size w10 wx)
            case first =>
              by_cases h0 : kind = 0
              · subst h0
                have hr10 := (HH.out.2.2.1.below (HB9.out.trans (HM.out.2.1.mono HB9.out.size))).more (HB9.out.trans (HM.out.2.1.mono HB9.out.size)).size
                rw [HWT.out.1 rfl] at hr10
                have HR10 := Lib.hid hr10
                clear hr10
                go_wp2_with fail
                go_meet
                exact ⟨C, m, cr, rfl, HR10.out, Below.refl _ _⟩
              · have h0b : (kind == 0) = false := by simpa using h0
                have HXP := Lib.hid (rexpand_any w10 At nt ct toks ((HH.out.1.below (HB9.out.trans (HM.out.2.1.mono HB9.out.size))).more (HB9.out.trans (HM.out.2.1.mono HB9.out.size)).size) (by omega))
                go_wp2_with fail
                refine HXP.out.mono ?_
                rintro e w11 ⟨Ax, nx, cx, rfl, hox, hbx⟩
                have HOX := Lib.hid (⟨hox.rd, hbx⟩ : _ ∧ _)
                clear hox hbx
                go_wp2_with fail
                go_meet
                exact ⟨Ax, nx, cx, rfl, by rw [← HWT.out.2 h0]; exact HOX.out.1, HOX.out.2⟩
            case rest =>
              obtain ⟨Aw, nw, cw, rfl, hrw, hbw⟩ := hcut
              have hMc := HM.out.1
              have hbM := HM.out.2.1
              obtain ⟨t1, t2, t3, t4, t6⟩ := HT5.out
              have hkk : R.kinds = List.replicate k 0 ++ [kind] := HM.out.2.2.2.2.1.trans t4
              have hoo : R.out = want := HM.out.2.2.2.1.trans t3
              have hRb := hMc.cell.keeps hbw
              have hrs : R.rest = (n8 : Int) := by rw [HM.out.2.2.2.2.2.2, t2, HN8.out.1]; simp
              have hnk : R.nk = k + 1 := by rw [hMc.kinds.1, hkk, List.length_append, List.length_replicate]; rfl
              have x0 : wc.cell? ⟨gs, 0, none⟩ = some (.slice R.Ao R.no R.co) := hRb.cell (i := 0) (by omega)
              have x1 : wc.cell? ⟨gs, 1, none⟩ = some (.int .i64 0) := by rw [← HM.out.2.2.1]; exact hRb.cell (i := 1) (by omega)
              have x2 : wc.cell? ⟨gs, 2, none⟩ = some (.int .i64 (n8 : Int)) := by rw [← hrs]; exact hRb.cell (i := 2) (by omega)
              have x3 : wc.cell? ⟨gs, 3, none⟩ = some (.slice R.Ak (k + 1) R.ck) := by rw [← hnk]; exact hRb.cell (i := 3) (by omega)
              have x12 : wc.cell? ⟨gs, 12, none⟩ = some (.slice R.At R.nt R.ct) := hRb.cell (i := 12) (by omega)
              have hko := (hMc.kinds.keeps hbw).rd
              rw [hkk, hnk] at hko
              obtain ⟨ak, hak, hakb, hck⟩ := hko.at_ (i := k) (by omega)
              have hixk : ix (List.replicate k 0 ++ [kind]) k = kind := by
                rw [ix_append, List.length_replicate, if_neg (by omega), Nat.sub_self]; rfl
              rw [hixk] at hck
              rw [hak] at x3
              have hor := (hMc.out.keeps hbw).rd
              rw [hoo] at hor
              have hnoB : R.no = want.length := by rw [hMc.out.1, hoo]
              have hwl : want.length ≤ 16777216 := by
                by_cases h0 : kind = 0
                · rw [← HWT.out.1 h0]; have := HH.out.2.2.2.2.2.1; omega
                · rw [← HWT.out.2 h0]; exact expand_le (by simp)
              obtain ⟨Ao, hAo⟩ : ∃ A, R.Ao = A := ⟨_, rfl⟩
              obtain ⟨no, hno⟩ : ∃ A, R.no = A := ⟨_, rfl⟩
              obtain ⟨co, hco⟩ : ∃ A, R.co = A := ⟨_, rfl⟩
              obtain ⟨ck, hck2⟩ : ∃ A, R.ck = A := ⟨_, rfl⟩
              have hsm := same_any wc wc.heap.size R.no R.co nw cw R.Ao Aw want want hor hrw (by omega) rfl
              have HSM := Lib.hid hsm
              have hBel := HB9.out.trans ((hbM.trans (hbw.mono hbM.size)).mono HB9.out.size)
              have HBL := Lib.hid hBel
              have HTK9 : Hid (kind ≠ 0 → ∀ W, Below wc.heap.size wc W → Calls Try.prog 23 #[.slice R.At R.nt R.ct, .slice At nt ct] W fun e w' => e = .returned (.bool true) ∧ Below W.heap.size W w') := fun h0 W hW => by
                have hq := (hMc.toks.2.keep (w' := W) (fun q hq hlt => by
                  rw [hW.block q (Nat.lt_of_lt_of_le hlt hbw.size), hbw.block q hlt]))
                have hl1 : RdT W W.heap.size R.At R.nt toks := by
                  have h9 := (show OwnT W w9.heap.size R.At R.nt R.ct R.toks from ⟨hMc.toks.1, hq⟩).rd
                  rw [HM.out.2.2.2.2.2.1, t6 h0] at h9; exact h9
                have hl2 : RdT W W.heap.size At nt toks := (HH.out.1.below (hBel.trans (hW.mono hBel.size))).more (Nat.le_trans hBel.size hW.size)
                exact (sameT_any W W.heap.size W.heap.size R.nt R.ct nt ct R.At At toks toks hl1 hl2 (by have := hl1.1; have := HH.out.2.2.2.2.2.2; omega) rfl).mono fun e w' q => ⟨q.1, by obtain ⟨q1, rfl⟩ := q.2; exact bel_drewN (Below.refl _ W) q1⟩
              rw [hAo, hno, hco] at x0 HSM
              rw [hck2] at x3
              have hsub : ((k : Int) + 1) - 1 = (k : Int) := by omega
              clear hsm hrs hnk hko hkk hoo hRb hMc hbM t1 t2 t3 t4 t6 hixk hor hnoB hwl hAo hno hco hck2 hBel hrw hbw
              by_cases h0 : kind = 0
              · subst h0
                go_wp2_with fail
                refine HSM.out.mono ?_
                rintro e w12 ⟨rfl, q, rfl⟩
                go_wp2_with fail
                go_ret
                exact ⟨rfl, bel_drewN HBL.out q⟩
              · have h0b : (kind == 0) = false := by simpa using h0
                have HT9 := Lib.hid (HTK9.out h0)
                go_wp2_with fail
                refine HSM.out.mono ?_
                rintro e w12 ⟨rfl, q, rfl⟩
                have HB12 := Lib.hid (bel_drewN HBL.out q)
                have HT12 := Lib.hid (HT9.out (wc.drewN q) (bel_drewN (Below.refl _ wc) q))
                go_wp2_with fail
                refine HT12.out.mono ?_
                rintro e w13 ⟨rfl, hb13⟩
                have HB13 := Lib.hid (HB12.out.trans (hb13.mono HB12.out.size))
                clear hb13
                go_wp2_with fail
                go_ret
                exact ⟨rfl, HB13.out⟩
        · have hmf : bkMay kind toks m = false := by simpa using hmb
          have HWK := Lib.hid (wkind_no w3 g kind At nt ct toks (hT3.more hsz3) (by omega) C m cr true hmf)
          have HMF := Lib.hid hmf
          clear hT3 hsz3 hn400 hk12 hkx hk0 hmb hmf
          go_wp2_with fail
          refine HWK.out.mono ?_
          rintro e w4 ⟨rfl, hb4⟩
          have HS4 := Lib.hid (HS3.out.keeps hb4)
          clear hb4
          go_upto_region 10 with fail
          go_cut [13] (fun v13 wx => v13 = .bool false ∧ wx = w4)
          case first =>
            have hcs : kind = 0 ∨ (kind ≠ 0 ∧ kind ≠ 1 ∧ kind ≠ 2) := by
              by_cases h0 : kind = 0
              · exact .inl h0
              · refine .inr ⟨h0, fun h => ?_, fun h => ?_⟩
                · have h1 := HK.out.1 kind (.inl h); rw [HMF.out] at h1; exact absurd h1 (by decide)
                · have h1 := HK.out.1 kind (.inr h); rw [HMF.out] at h1; exact absurd h1 (by decide)
            rcases hcs with rfl | ⟨h0, h1, h2⟩
            · have hmN : ¬ m ≤ 65535 := fun h => by have h1 := HMF.out; rw [HK.out.2.2, decide_eq_true h] at h1; exact absurd h1 (by decide)
              have hmI2 : decide ((m : Int) ≤ 65535) = false := by simp; omega
              go_wp2_with fail
              all_goals go_meet
              all_goals exact ⟨rfl, rfl⟩
            · have e0 : (kind == 0) = false := by simpa using h0
              have e1 : (kind == 1) = false := by simpa using h1
              have e2 : (kind == 2) = false := by simpa using h2
              clear h0 h1 h2
              go_wp2_with fail
              all_goals go_meet
              all_goals exact ⟨rfl, rfl⟩
          case rest =>
            obtain ⟨rfl, hwx⟩ := hcut
            obtain rfl := hwx.symm
            have HCO := Lib.hid (bcost_no w4 kind At nt ct toks ((HH.out.1.below HS4.out.below).more HS4.out.below.size) (by omega) C m cr HMF.out)
            go_wp2_with fail
            refine HCO.out.mono ?_
            rintro e w5 ⟨rfl, hb5⟩
            have HS5 := Lib.hid (HS4.out.keeps hb5)
            clear hb5
            go_wp2_with fail
            refine (answers10_any w5).mono ?_
            rintro e w6 ⟨rfl, hb6⟩
            have HS6 := Lib.hid (HS5.out.keeps hb6)
            clear hb6
            obtain ⟨A, n, c, hw, hft, hnx⟩ := HS6.out.get
            have HBT := Lib.hid (bits_bel w6 b0 g n c A _ hw (by rw [preL_len]; omega))
            clear hw hft hnx
            go_wp2_with fail
            refine HBT.out.mono ?_
            rintro e w7 ⟨rfl, hb7⟩
            have HS7 := Lib.hid (HS6.out.keeps hb7)
            clear hb7
            rw [preL_len]
            go_wp2_with fail
            go_ret
            exact ⟨rfl, HS7.out.below⟩
  · have hd : Hid (decide ((expand [] toks).1 = 0) = false) := decide_eq_false he
    clear he
    go_enter Try.func4, Try.ntmps4
    go_wp2_with fail
    refine HSN.out.mono ?_
    rintro e w1 ⟨rfl, hb1⟩
    rw [hd.out]
    have HB1 := Lib.hid hb1
    clear hb1
    go_wp2_with fail
    refine (answers10_any w1).mono ?_
    rintro e w2 ⟨rfl, hb⟩
    have HB2 := Lib.hid (HB1.out.trans (hb.mono HB1.out.size))
    clear hb
    go_wp2_with fail
    go_ret
    exact ⟨rfl, HB2.out⟩
theorem bmeans_frame (kind : Int) (At : Option Addr) (nt ct : Nat) (toks : List Tok) (C : Option Addr) (m cr : Nat) (raw : List Int) (ahead : Int) (w : World) (hkind : (Lit.int .i64 kind).wf = true) (hTT : RdT w w.heap.size At nt toks ∧ nt ≤ maxLen ∧ ∀ t ∈ toks, 0 ≤ t.lit ∧ t.lit < 256) (hr : RdI .u8 w w.heap.size C m raw ∧ m ≤ maxLen ∧ ∀ n ∈ raw, (Lit.int .u8 n).wf = true) (hah : (Lit.int .u8 ahead).wf = true) :
    Calls Try.prog 4 #[.int .i64 kind, .slice At nt ct, .slice C m cr, .int .u8 ahead] w fun e w' => e = .returned (.bool true) ∧ Below w.heap.size w w' :=
  bmeans_law kind At nt ct toks C m cr raw ahead w ⟨hTT.1, hTT.2.1⟩ hTT.2.2 hr.1 hr.2.1 (fun x hx => bounds_u8 (hr.2.2 x hx)) (bounds_u8 hah)
end Go.Proofs.Ytckhkkjdibcclaa
