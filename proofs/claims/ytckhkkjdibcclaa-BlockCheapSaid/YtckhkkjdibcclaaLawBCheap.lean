/-
  The walk of the law BlockCheap.
-/
import Derived.Test.YtckhkkjdibcclaaBLw
import Derived.Test.YtckhkkjdibcclaaBkW
namespace Go.Proofs.Ytckhkkjdibcclaa
open Go.RowKit
set_option linter.unusedVariables false
theorem expand_byB : ∀ (l : List Tok) (out : List Int), (∀ t ∈ l, 0 ≤ t.lit ∧ t.lit < 256) → (∀ x ∈ out, 0 ≤ x ∧ x < 256) → ∀ x ∈ (expand out l).2, 0 ≤ x ∧ x < 256
  | [], out, _, h => h
  | t :: l, out, hl, h => by
    have hix : ∀ (L : List Int) (i : Nat), (∀ x ∈ L, 0 ≤ x ∧ x < 256) → 0 ≤ ix L i ∧ ix L i < 256 := fun L i hL => by
      by_cases hi : i < L.length
      · exact hL _ (ix_mem hi)
      · rw [ix_none (by omega)]; omega
    have hs : ∀ x ∈ (step out t).2, 0 ≤ x ∧ x < 256 := by
      unfold step
      split
      · intro x hx; simp at hx
      · split
        · intro x hx; simp at hx
        · split
          · intro x hx
            rcases List.mem_append.1 hx with hx | hx
            · exact h x hx
            · rw [List.mem_singleton.1 hx]; exact hl t List.mem_cons_self
          · split
            · intro x hx; simp at hx
            · intro x hx
              rcases List.mem_append.1 hx with hx | hx
              · exact h x hx
              · unfold again at hx
                obtain ⟨i, _, rfl⟩ := List.mem_map.1 hx
                exact hix _ _ h
    rw [expand_cons]
    by_cases h0 : (step out t).1 = 0
    · rw [if_pos h0]
      exact expand_byB l _ (fun u hu => hl u (List.mem_cons_of_mem _ hu)) hs
    · rw [if_neg h0]; exact hs
/-- what the law's stream is -/
theorem cheap_law {toks : List Tok} {k : Nat} (hk : k < 3) (hm : bkMay (k : Int) toks (expand [] toks).2.length = true) (hlit : ∀ t ∈ toks, 0 ≤ t.lit ∧ t.lit < 256) (he : (expand [] toks).1 = 0) (last : Bool) :
    ∃ t, (start (evn (if last = true then outB (k : Int) toks (expand [] toks).2 true [] else outB 1 [] [] true (outB (k : Int) toks (expand [] toks).2 false []))) 16777216).fin = (t, 8) ∧ t.x = [] ∧ t.all = (expand [] toks).2 := by
  have hby := expand_byB toks [] hlit (fun x hx => by simp at hx)
  have hall : blkAll (k : Int) toks (expand [] toks).2 [] = (expand [] toks).2 := by
    unfold blkAll
    split
    · rfl
    · rfl
  have hle : (expand [] toks).2.length ≤ 16777216 := expand_le (by simp)
  have h := Reads.nil 16777216
  cases last with
  | true =>
    rw [if_pos rfl]
    obtain ⟨t, h1, h2, h3, _⟩ := (h.fin hm hby hlit (fun _ => he) (by rw [hall]; exact hle)).fin
    exact ⟨t, h1, h2, h3.trans hall⟩
  | false =>
    rw [if_neg (by decide)]
    have h2 := h.next hm hby hlit (fun _ => he) (by rw [hall]; exact hle)
    rw [hall] at h2
    have hall2 : blkAll 1 [] [] (expand [] toks).2 = (expand [] toks).2 := rfl
    obtain ⟨t, h3, h4, h5, _⟩ := (h2.fin (kind := 1) (l := []) (raw := []) (by decide) (fun x hx => by simp at hx) (fun t ht => by simp at ht) (fun _ => rfl) (by rw [hall2]; exact hle)).fin
    exact ⟨t, h3, h4, h5.trans hall2⟩
set_option maxRecDepth 100000 in
set_option maxHeartbeats 4000000 in
theorem bcheap_law (At : Option Addr) (nt ct : Nat) (toks : List Tok) (last : Bool) (w : World) (hTT : RdT w w.heap.size At nt toks ∧ nt ≤ maxLen ∧ ∀ t ∈ toks, 0 ≤ t.lit ∧ t.lit < 256) :
    Calls Try.prog 5 #[.slice At nt ct, .bool last] w fun e w' => e = .returned (.bool true) ∧ Below w.heap.size w w' := by
  obtain ⟨hT, hnt, hlit⟩ := hTT
  have hnI : (nt : Int) ≤ 9223372036854775807 ∧ (0 : Int) ≤ nt := by unfold maxLen at hnt; omega
  have HH := Lib.hid (⟨hT, hlit, hT.1⟩ : _ ∧ _ ∧ _)
  clear hT hlit hnt
  by_cases hbig : 400 < nt
  · have hbigI : (400 : Int) < (nt : Int) := by omega
    go_enter Try.func5, Try.ntmps5
    go_wp2_with fail
    refine (answers10_any w).mono ?_
    rintro e w1 ⟨rfl, hb⟩
    go_wp2_with fail
    go_ret
    exact ⟨rfl, hb⟩
  have hbigI : decide ((400 : Int) < (nt : Int)) = false := by simp; omega
  have HSN := Lib.hid (sound10_any w At nt ct toks HH.out.1 (by omega))
  by_cases he : (expand [] toks).1 = 0
  · have hd : Hid (decide ((expand [] toks).1 = 0) = true) := decide_eq_true he
    have HE := Lib.hid he
    have HSO := Lib.hid (expand_sound he)
    obtain ⟨raw, hraw⟩ : ∃ r, (expand [] toks).2 = r := ⟨_, rfl⟩
    have hby := expand_byB toks [] HH.out.2.1 (fun x hx => by simp at hx)
    have hle : (expand [] toks).2.length ≤ 16777216 := expand_le (by simp)
    rw [hraw] at hby hle
    have HR := Lib.hid (⟨hraw, hby, hle⟩ : _ ∧ _ ∧ _)
    clear he hraw hby hle
    go_enter Try.func5, Try.ntmps5
    go_wp2_with fail
    refine HSN.out.mono ?_
    rintro e w1 ⟨rfl, hb1⟩
    rw [hd.out]
    have HB1 := Lib.hid hb1
    have HXP := Lib.hid (rexpand_any w1 At nt ct toks ((HH.out.1.below hb1).more hb1.size) (by omega))
    clear hb1
    go_wp2_with fail
    refine HXP.out.mono ?_
    rintro e wE ⟨Ax, m, cx, rfl, hox, hbx⟩
    rw [HR.out.1] at hox
    have HBE := Lib.hid (HB1.out.trans (hbx.mono HB1.out.size))
    have hml := hox.1
    have HX := Lib.hid (⟨hox.rd, hml⟩ : _ ∧ _)
    clear hox hbx hml
    go_wp2_with fail
    refine (wtrNew_any wE).mono ?_
    rintro e w2 ⟨g, rfl, hw2, hb2⟩
    have hTE := HH.out.1.below (HBE.out.trans (hb2.mono HBE.out.size))
    have hft : ∀ k, foot none g k → wE.heap.size ≤ k := fun k hk => by
      rcases hk with hk | hk
      · rw [hk]; exact hw2.lo
      · simp [blkOf] at hk
    have hWR := bwrite_any w2 wE.heap.size g 0 0 none [] hw2 At nt ct toks (hTE.more (Nat.le_trans HBE.out.size hb2.size)) (by omega) (fun h0 ad e hk => by
      obtain ⟨ad', e', hb', _⟩ := HH.out.1.2 h0
      rw [e] at e'; injection e' with e'; subst e'
      have := hft _ hk; have := HBE.out.size; omega) HH.out.2.1 Ax m cx raw ((HX.out.1.below hb2).more hb2.size) (fun h0 ad e hk => by
      obtain ⟨ad', e', hb', _⟩ := HX.out.1.2 h0
      rw [e] at e'; injection e' with e'; subst e'
      have := hft _ hk; omega) HR.out.2.1 last (by simp)
    have HWR := Lib.hid hWR
    have HS0 : Hid (LwS wE w2 w2 wE.heap.size g []) := ⟨BkS.start hw2 (Below.refl _ _), hb2.size, hb2, hw2.lo⟩
    obtain ⟨f, hf⟩ : ∃ f, cstK toks m = f := ⟨_, rfl⟩
    have hmm1 : bkMay 1 toks m = true := by
      unfold bkMay
      rw [if_neg (by decide), if_neg (by have := HH.out.2.2; omega), List.all_eq_true]
      exact fun t ht => decide_eq_true (HSO.out t ht)
    have hf1 : 0 ≤ f 1 := by
      rw [← hf]
      unfold cstK
      rw [show ((1 : Nat) : Int) = 1 from rfl, if_pos hmm1]
      exact (cost_bd hmm1 HH.out.2.1).1
    obtain ⟨p1, -⟩ := pickK_some f 3 1 (by omega) hf1
    obtain ⟨kk, hkk3, hk1, hk2, hk0⟩ : ∃ i : Nat, i < 3 ∧ (pickK f 3).1 = (i : Int) ∧ (pickK f 3).2 = f i ∧ 0 ≤ f i := by
      rcases pickK_in f 3 with h | h
      · omega
      · exact h
    have hmay : bkMay (kk : Int) toks m = true := cst_may (by rw [hf]; exact hk0)
    have hfb : ∀ k, -1 ≤ f k ∧ f k ≤ 60000000 := by rw [← hf]; exact cst_bd HH.out.2.1
    have hlen : ((outB (kk : Int) toks raw last []).length : Int) = f kk := by
      have h := out_len (kind := (kk : Int)) (l := toks) (raw := raw) (L := []) (last := last) (by rw [← HX.out.2]; exact hmay) HH.out.2.1 (fun _ => rfl)
      rw [h, ← HX.out.2, ← hf]
      unfold cstK
      rw [if_pos hmay]; simp
    obtain ⟨t, t1, t2, t3⟩ := cheap_law (toks := toks) hkk3 (by rw [HR.out.1, ← HX.out.2]; exact hmay) HH.out.2.1 HE.out last
    rw [HR.out.1] at t1 t3
    obtain ⟨L1, hL1⟩ : ∃ L, outB (kk : Int) toks raw last [] = L := ⟨_, rfl⟩
    have t1' : (start (evn (if last = true then L1 else outB 1 [] [] true L1)) 16777216).fin = (t, 8) := by
      rw [← t1, ← hL1]
      cases last <;> rfl
    have hbit : Bit L1 := by rw [← hL1]; exact Bit.nil_.out _ _ _ _
    rw [hL1] at hlen
    have HP : Hid (pickK f 3 = ((kk : Int), f kk)) := by
      show _ = _
      rw [← hk1, ← hk2]
    have HPC : Hid (∀ e w', WrPost w2 wE.heap.size g none [] raw toks m last e w' → e = .returned (.int .i64 (kk : Int)) ∧ BkS w2 w' wE.heap.size g none L1) := fun e w' h => by
      obtain ⟨h1, h2⟩ := h
      rw [hf, hk1] at h1 h2
      refine ⟨h1, ?_⟩
      rcases h2 with ⟨h3, _⟩ | ⟨_, h3⟩
      · omega
      · rw [← hL1]; exact h3
    have HQ := Lib.hid (⟨t1', t2, t3, hbit, hlen, hkk3⟩ : _ ∧ _ ∧ _ ∧ _ ∧ _ ∧ _)
    have HFB := Lib.hid (⟨hfb, hf⟩ : _ ∧ _)
    clear hTE hft hWR hmm1 hf1 p1 hkk3 hk1 hk2 hk0 hmay hlen t1 t2 t3 t1' hL1 hbit hw2 hb2 hfb hf
    go_wp2_with fail
    refine HWR.out.mono ?_
    rintro e w3 hpost
    obtain ⟨rfl, h3⟩ := HPC.out e w3 hpost
    have HS3 : Hid (LwS wE w2 w3 wE.heap.size g L1) := ⟨h3, HS0.out.lo, HS0.out.bel, HS0.out.glo⟩
    have HCO : Hid (∀ (W : World) (k : Nat), Below wE.heap.size wE W → Calls Try.prog 11 #[.int .i64 (k : Int), .slice At nt ct, .slice Ax m cx] W fun e w' => e = .returned (.int .i64 (f k)) ∧ Below W.heap.size W w') := fun W k h => by
      have h9 := bcost_any W (k : Int) At nt ct toks ((HH.out.1.below (HBE.out.trans (h.mono HBE.out.size))).more (Nat.le_trans HBE.out.size h.size)) (by omega) HH.out.2.1 Ax m cx
      rw [show (if bkMay (k : Int) toks m = true then costB (k : Int) toks m else -1) = f k by rw [← HFB.out.2]; rfl] at h9
      exact h9
    clear h3 hpost HPC HWR HS0
    go_wp2_with fail
    go_loopg [9, 10, 11] 3 (fun (gk : Nat) (v9 v10 v11 : Value) wx => ∃ (k : Nat) (b c : Int), v9 = .int .i64 b ∧ v10 = .int .i64 c ∧ v11 = .int .i64 k ∧ k ≤ 3 ∧ Hid (pickK f k = (b, c)) ∧ Hid (LwS wE w2 wx wE.heap.size g L1) ∧ Hid (gk = 3 - k))
    case atStart => exact ⟨0, -1, 0, rfl, rfl, rfl, by omega, rfl, HS3.out, rfl⟩
    case round =>
      clear HS3
      obtain ⟨k, b, cc, rfl, rfl, rfl, hk, hp, hb, hg⟩ := hrel
      have hin := pickK_in f k
      rw [hp.out] at hin
      dsimp only at hin
      have hbb : -1 ≤ b ∧ b ≤ 3 := by rcases hin with h | ⟨i, h1, h2, _⟩ <;> omega
      by_cases hlt : k < 3
      · have hkI : (k : Int) < 3 ∧ (0 : Int) ≤ (k : Int) := by omega
        have HC := Lib.hid (HCO.out wr k hb.out.below)
        obtain ⟨N, hN⟩ : ∃ N, f k = N := ⟨_, rfl⟩
        have hNb := HFB.out.1 k
        rw [hN] at HC hNb
        have hcb : -1 ≤ cc ∧ cc ≤ 60000000 := by
          rcases hin with h | ⟨i, _, _, h1, _⟩
          · have h0 : ∀ j, (pickK f j).1 = -1 → (pickK f j).2 = 0 := fun j => by
              induction j with
              | zero => intro _; rfl
              | succ j ih =>
                intro h9
                unfold pickK at h9 ⊢
                split at h9
                · exfalso; dsimp only at h9; omega
                · rename_i h8; rw [if_neg h8]; exact ih h9
            have h7 := h0 k (by rw [hp.out]; exact h)
            rw [hp.out] at h7
            have h7 : cc = 0 := h7
            omega
          · have := HFB.out.1 i; omega
        have HNX : Hid (pickK f (k + 1) = if 0 ≤ N ∧ (b < 0 ∨ N < cc) then ((k : Int), N) else (b, cc)) := by
          show _ = _
          rw [show pickK f (k + 1) = if 0 ≤ f k ∧ ((pickK f k).1 < 0 ∨ f k < (pickK f k).2) then ((k : Int), f k) else pickK f k from rfl, hp.out, hN]
        clear hin hN hp hlt
        go_wp2_with fail
        refine HC.out.mono ?_
        rintro e w5 ⟨rfl, hb5⟩
        have HB6 := Lib.hid (hb.out.keeps hb5)
        clear hb5
        by_cases hc : 0 ≤ N ∧ (b < 0 ∨ N < cc)
        · have hnx := HNX.out
          rw [if_pos hc] at hnx
          have HN2 := Lib.hid hnx
          clear hnx HNX
          obtain ⟨hc1, hc2⟩ := hc
          by_cases hb0 : b < 0
          · clear hc2
            go_wp2_with fail
            go_roundg (3 - (k + 1))
            case measure => have := hg.out; omega
            case rel => exact ⟨k + 1, (k : Int), N, rfl, rfl, by go_num, by omega, HN2.out, HB6.out, rfl⟩
          · have hb0d : decide (b < 0) = false := by simp; omega
            have hnc : N < cc := by rcases hc2 with h | h; exact absurd h hb0; exact h
            clear hc2
            go_wp2_with fail
            go_roundg (3 - (k + 1))
            case measure => have := hg.out; omega
            case rel => exact ⟨k + 1, (k : Int), N, rfl, rfl, by go_num, by omega, HN2.out, HB6.out, rfl⟩
        · have hnx := HNX.out
          rw [if_neg hc] at hnx
          have HN2 := Lib.hid hnx
          clear hnx HNX
          by_cases hN0 : 0 ≤ N
          · have hb0d : decide (b < 0) = false := by simp; omega
            have hnc : decide (N < cc) = false := by simp; omega
            clear hc
            go_wp2_with fail
            go_roundg (3 - (k + 1))
            case measure => have := hg.out; omega
            case rel => exact ⟨k + 1, b, cc, rfl, rfl, by go_num, by omega, HN2.out, HB6.out, rfl⟩
          · have hN0d : decide (0 ≤ N) = false := by simp; omega
            clear hc
            go_wp2_with fail
            go_roundg (3 - (k + 1))
            case measure => have := hg.out; omega
            case rel => exact ⟨k + 1, b, cc, rfl, rfl, by go_num, by omega, HN2.out, HB6.out, rfl⟩
      · obtain rfl : k = 3 := by omega
        have hpp := hp.out
        rw [HP.out] at hpp
        obtain ⟨rfl, rfl⟩ : (kk : Int) = b ∧ f kk = cc := by injection hpp with h1 h2; exact ⟨h1, h2⟩
        have HS3 := Lib.hid hb.out
        have hfk := HFB.out.1 kk
        obtain ⟨F, hF⟩ : ∃ F, f kk = F := ⟨_, rfl⟩
        rw [hF] at hfk
        have HL := Lib.hid (show (L1.length : Int) = F by rw [← hF]; exact HQ.out.2.2.2.2.1)
        rw [hF]
        clear hlt hp hpp hin hb hg hF hbb
        go_wp2_with fail
        refine (answers10_any _).mono ?_
        rintro e w5 ⟨rfl, hb5⟩
        have HS5 := Lib.hid (HS3.out.keeps hb5)
        clear hb5
        obtain ⟨A6, n6, c6, hw6, hft6, hnx6⟩ := HS5.out.get
        have HBT := Lib.hid (bits_bel w5 _ g n6 c6 A6 _ hw6 (by have := HL.out; omega))
        rw [HL.out] at HBT
        clear hw6 hft6 hnx6
        go_wp2_with fail
        refine HBT.out.mono ?_
        rintro e w7 ⟨rfl, hb7⟩
        have HS7 := Lib.hid (HS5.out.keeps hb7)
        clear hb7
        obtain ⟨L2, hL2⟩ : ∃ L, (if last = true then L1 else outB 1 [] [] true L1) = L := ⟨_, rfl⟩
        have HQ1 := HQ.out.1
        rw [hL2] at HQ1
        have hbit2 : Bit L2 := by
          rw [← hL2]
          split
          · exact HQ.out.2.2.2.1
          · exact HQ.out.2.2.2.1.out _ _ _ _
        have hlen2 : (L2.length : Int) ≤ 60000050 := by
          rw [← hL2]
          split
          · have := HL.out; omega
          · have h := out_len (kind := 1) (l := []) (raw := []) (L := L1) (last := true) (by decide) (fun t ht => by simp at ht) (fun h => absurd h (by decide))
            have hc : costB 1 [] ([] : List Int).length = 10 := rfl
            rw [hc] at h
            have := HL.out; omega
        have HQ2 := Lib.hid (⟨HQ1, HQ.out.2.1, HQ.out.2.2.1, hbit2, hlen2⟩ : _ ∧ _ ∧ _ ∧ _ ∧ _)
        have HL2 : Hid ((last = true → L1 = L2) ∧ (last = false → outB 1 [] [] true L1 = L2)) := by
          show _ ∧ _
          rw [← hL2]
          exact ⟨fun h => by rw [if_pos h], fun h => by rw [h]; rfl⟩
        clear HQ1 hbit2 hlen2 hL2 HQ HFB HCO HP HBT HS5 HS3
        go_upto_if 69 with fail
        go_cut [] (fun wx => Hid (LwS wE w2 wx wE.heap.size g L2))
        case first =>
          cases last with
          | true =>
            have h7 := HS7.out
            rw [HL2.out.1 rfl] at h7
            have H7 := Lib.hid h7
            clear h7
            go_wp2_with fail
            go_meet
            exact H7.out
          | false =>
            obtain ⟨A, n, c, hw, hft, hnx⟩ := HS7.out.get
            have hkw := wkind_any w7 wE.heap.size g n c A _ hw 1 none 0 0 [] ⟨rfl, fun h => absurd h (by decide)⟩ (by decide) (fun h => absurd h (by decide)) (fun t ht => by simp at ht) none 0 0 [] ⟨rfl, fun h => absurd h (by decide)⟩ (fun h => absurd h (by decide)) (fun x hx => by simp at hx) true (by decide) (by have := HL.out; omega)
            rw [HL2.out.2 rfl] at hkw
            have HKW := Lib.hid hkw
            have HNX := Lib.hid hnx
            clear hw hft hnx hkw
            go_wp2_with fail
            refine HKW.out.mono ?_
            rintro e w8 ⟨rfl, h8⟩
            have H8 := Lib.hid (HNX.out _ _ h8)
            clear h8
            go_wp2_with fail
            go_meet
            exact H8.out
        case rest =>
          have HSx := Lib.hid hcut.out
          clear hcut HS7 HL2 HL
          obtain ⟨A7, n7, c7, hw7, hft7, hnx7⟩ := HSx.out.get
          have HAL := Lib.hid (wtrAlign_any wc wE.heap.size g n7 c7 A7 _ hw7 (by have := HQ2.out.2.2.2.2; omega))
          have HNX7 := Lib.hid hnx7
          clear hw7 hft7 hnx7
          go_wp2_with fail
          refine HAL.out.mono ?_
          rintro e w8 ⟨A8, n8, c8, rfl, hw8, hc8, hA8⟩
          have HS8 := Lib.hid (HNX7.out _ _ (BkS.of hw8 hc8 hA8))
          have HTK := Lib.hid (wtrTake_any w8 wE.heap.size g n8 c8 A8 _ hw8)
          clear hw8 hc8 hA8
          go_wp2_with fail
          refine HTK.out.mono ?_
          rintro e w9 ⟨rfl, ho9, hw9, hc9⟩
          obtain ⟨bb, hbb⟩ : ∃ b, byt (evn L2) = b := ⟨_, rfl⟩
          have hev := even_bts (evn_even L2) (Bit.evn HQ2.out.2.2.2.1)
          rw [hbb] at hev ho9
          have hby9 := byt_bd (Bit.evn HQ2.out.2.2.2.1)
          rw [hbb] at hby9
          have hlen9 : bb.length ≤ 10000000 := by have := HQ2.out.2.2.2.2; rw [← hbb, byt_length, evn_length]; omega
          have HB9 : Hid (Below wE.heap.size wE w9) := HS8.out.below.trans (hc9.below (fun k hk => by rw [hk]; exact HS8.out.glo) HS8.out.below.size)
          have hri := rinflate_any w9 w9.heap.size A8 n8 c8 bb ho9.rd (Nat.le_refl _) hby9 (by omega) 16777216 16777216 (by decide) (by decide) (t, 8) (by rw [hev]; exact HQ2.out.1)
          have HRI := Lib.hid hri
          clear ho9 hw9 hc9 hbb hev hby9 hlen9 hri HTK HS8
          go_wp2_with fail
          refine HRI.out.mono ?_
          rintro e w10 ⟨gs, col, R, rfl, hM, hbM, hE, hout, hkd, hst, htk, hrest⟩
          have hE0 : R.E = 0 := hE
          have hRb := hM.cell
          have x0 : w10.cell? ⟨gs, 0, none⟩ = some (.slice R.Ao R.no R.co) := hRb.cell (i := 0) (by omega)
          have x1 : w10.cell? ⟨gs, 1, none⟩ = some (.int .i64 0) := by rw [← hE0]; exact hRb.cell (i := 1) (by omega)
          have hoo : R.out = raw := hout.trans HQ2.out.2.2.1
          have hor := hM.out.rd
          rw [hoo] at hor
          have hnoB : R.no = raw.length := by rw [hM.out.1, hoo]
          have hwl := HR.out.2.2
          have hB10 := HB9.out.trans (hbM.mono HB9.out.size)
          have hsm := same_any w10 w10.heap.size R.no R.co m cx R.Ao Ax raw raw hor ((HX.out.1.below hB10).more hB10.size) (by omega) rfl
          have HSM := Lib.hid hsm
          have HBL := Lib.hid (HBE.out.trans (hB10.mono HBE.out.size))
          obtain ⟨Ao, hAo⟩ : ∃ A, R.Ao = A := ⟨_, rfl⟩
          obtain ⟨no, hno⟩ : ∃ A, R.no = A := ⟨_, rfl⟩
          obtain ⟨co, hco⟩ : ∃ A, R.co = A := ⟨_, rfl⟩
          rw [hAo, hno, hco] at x0 HSM
          clear hM hbM hE hout hkd hst htk hrest hE0 hRb hoo hor hnoB hwl hB10 hsm hAo hno hco
          go_wp2_with fail
          refine HSM.out.mono ?_
          rintro e w12 ⟨rfl, q, rfl⟩
          go_wp2_with fail
          go_ret
          exact ⟨rfl, bel_drewN HBL.out q⟩
  · have hd : Hid (decide ((expand [] toks).1 = 0) = false) := decide_eq_false he
    clear he
    go_enter Try.func5, Try.ntmps5
    go_wp2_with fail
    refine HSN.out.mono ?_
    rintro e w1 ⟨rfl, hb1⟩
    rw [hd.out]
    have HB1 := Lib.hid hb1
    clear hb1
    go_wp2_with fail
    refine (answers10_any w1).mono ?_
    rintro e w2 ⟨rfl, hb⟩
    have HB2 := Lib.hid (HB1.out.trans (hb.mono HB1.out.size))
    clear hb
    go_wp2_with fail
    go_ret
    exact ⟨rfl, HB2.out⟩
end Go.Proofs.Ytckhkkjdibcclaa
