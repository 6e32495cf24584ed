/-
  The walks of layer 13's small and good.
-/
import Derived.Test.YtgdmhicfeipbjaaHdV
import Derived.Test.YtgdmhicfeipbjaaHdU
namespace Go.Proofs.Ytgdmhicfeipbjaa
open Go.RowKit
set_option linter.unusedVariables false

def smB (h : HP) : Bool := decide (h.xl.length ≤ 70000) && (decide (h.nl.length ≤ 5000) && decide (h.cl.length ≤ 5000))
set_option maxRecDepth 100000 in
theorem small_any (w : World) (h : HP) (X : Option Addr) (m cc : Nat) (hx : m = h.xl.length) (hm : m ≤ 9223372036854775807) (hnl : h.nl.length ≤ 9223372036854775807) (hcl : h.cl.length ≤ 9223372036854775807) :
    Calls Try.prog 5 #[hagg (h.v (.slice X m cc))] w fun e w' => e = .returned (.bool (smB h)) ∧ Below w.heap.size w w' := by
  obtain ⟨tx, sm, tm, fl, sy, xl, hE, nl, cl, hN, hC⟩ := h
  unfold hagg HP.v
  dsimp only at hx hnl hcl ⊢
  have HX := Lib.hid hx
  have Hs1 := Lib.hid (strOf_size nl)
  have Hs2 := Lib.hid (strOf_size cl)
  have hz1 : (strOf nl).size = nl.length := Hs1.out
  have hz2 : (strOf cl).size = cl.length := Hs2.out
  have hmI : (0 : Int) ≤ m ∧ (m : Int) ≤ 9223372036854775807 := by omega
  have hnI : (nl.length : Int) ≤ 9223372036854775807 := by omega
  have hcI : (cl.length : Int) ≤ 9223372036854775807 := by omega
  have hbl := (Below.refl w.heap.size w).alloc (Nat.le_refl _) (.cells #[.bool tx, .bool sm, .int .u32 tm, .int .u8 fl, .int .u8 sy, .slice X m cc, .bool hE, .string (strOf nl), .string (strOf cl), .bool hN, .bool hC] 25)
  by_cases h1 : (m : Int) ≤ 70000
  · by_cases h2 : (nl.length : Int) ≤ 5000
    · by_cases h3 : (cl.length : Int) ≤ 5000
      · have HG : Hid (smB ⟨tx, sm, tm, fl, sy, xl, hE, nl, cl, hN, hC⟩ = true) := by show _ = _; unfold smB; dsimp only; rw [← HX.out]; simp; omega
        clear hx
        go_enter Try.func5, Try.ntmps5
        go_wp2
        go_ret
        exact ⟨by rw [HG.out]; rfl, hbl⟩
      · have HG : Hid (smB ⟨tx, sm, tm, fl, sy, xl, hE, nl, cl, hN, hC⟩ = false) := by show _ = _; unfold smB; dsimp only; rw [← HX.out]; simp; omega
        clear hx
        go_enter Try.func5, Try.ntmps5
        go_wp2
        go_ret
        exact ⟨by rw [HG.out]; rfl, hbl⟩
    · have HG : Hid (smB ⟨tx, sm, tm, fl, sy, xl, hE, nl, cl, hN, hC⟩ = false) := by show _ = _; unfold smB; dsimp only; rw [← HX.out]; simp; omega
      clear hx
      go_enter Try.func5, Try.ntmps5
      go_wp2
      go_ret
      exact ⟨by rw [HG.out]; rfl, hbl⟩
  · have HG : Hid (smB ⟨tx, sm, tm, fl, sy, xl, hE, nl, cl, hN, hC⟩ = false) := by show _ = _; unfold smB; dsimp only; rw [← HX.out]; simp; omega
    clear hx
    go_enter Try.func5, Try.ntmps5
    go_wp2
    go_ret
    exact ⟨by rw [HG.out]; rfl, hbl⟩
theorem strOf_append (a b : List Int) : strOf a ++ strOf b = strOf (a ++ b) := by
  apply ByteArray.ext
  apply Array.ext'
  rw [ByteArray.data_append, Array.toList_append, strOf_data, strOf_data, strOf_data, List.map_append]
theorem strOf_at {l : List Int} (h : ∀ x ∈ l, 0 ≤ x ∧ x < 256) {k : Nat} (hk : k < (strOf l).size) : (((strOf l)[k]).toNat : Int) = ix l k := by
  have hl : k < l.length := by rw [← strOf_size]; exact hk
  have hd := strOf_data l
  have h1 : (strOf l)[k] = UInt8.ofNat (l[k]).toNat := by
    have h2 : (strOf l).data.toList[k]? = some ((strOf l)[k]) := by
      rw [Array.getElem?_toList]
      exact Array.getElem?_eq_getElem hk
    rw [hd, List.getElem?_map, List.getElem?_eq_getElem hl] at h2
    simpa using h2.symm
  rw [h1]
  have := h l[k] (List.getElem_mem hl)
  unfold ix
  rw [List.getD_eq_getElem?_getD, List.getElem?_eq_getElem hl]
  simp
  omega
theorem strOf_nil_empty : (strOf []).toList.isEmpty = true := by rw [show (strOf []).toList = [] from (toList_nil_iff_emptyBytes _).2 rfl]; rfl
theorem strOf_cons_empty (x : Int) (l : List Int) : (strOf (x :: l)).toList.isEmpty = false := by
  cases h9 : (strOf (x :: l)).toList with
  | nil =>
    have h8 := (toList_nil_iff_emptyBytes _).1 h9
    have h7 := strOf_size (x :: l)
    rw [h8] at h7
    simp at h7
  | cons => rfl
theorem nz_of_none {l : List Int} (h : ∀ j, j < l.length → ix l j ≠ 0) : ¬ nz l < l.length := fun h1 => h _ h1 (nz_at h1)
theorem ok_val {h : HP} (hz : ∀ j, j < h.nl.length + h.cl.length → ix (h.nl ++ h.cl) j ≠ 0) :
    h.ok = (decide (h.xl.length ≤ 65535) && ((h.hE || decide (h.xl.length = 0)) && (decide (h.nl.length ≤ 4096) && ((h.hN || h.nl.isEmpty) && (decide (h.cl.length ≤ 4096) && (h.hC || h.cl.isEmpty)))))) := by
  have h1 : ¬ nz h.nl < h.nl.length := nz_of_none fun j hj => by
    have := hz j (by omega)
    rwa [ix_app_left hj] at this
  have h2 : ¬ nz h.cl < h.cl.length := nz_of_none fun j hj => by
    have := hz (h.nl.length + j) (by omega)
    rw [ix_append, if_neg (by omega)] at this
    rwa [show h.nl.length + j - h.nl.length = j by omega] at this
  have e1 : decide (65535 < h.xl.length) = !decide (h.xl.length ≤ 65535) := by by_cases hh : h.xl.length ≤ 65535 <;> simp [hh] <;> omega
  have e2 : decide (0 < h.xl.length) = !decide (h.xl.length = 0) := by by_cases hh : h.xl.length = 0 <;> simp [hh] <;> omega
  unfold HP.ok gdS
  rw [decide_eq_true h1, decide_eq_true h2, e1, e2]
  generalize decide (h.xl.length ≤ 65535) = a
  generalize decide (h.xl.length = 0) = b
  generalize decide (h.nl.length ≤ 4096) = c
  generalize decide (h.cl.length ≤ 4096) = d
  simp only [Bool.not_or, Bool.not_and, Bool.not_not, Bool.and_assoc, Bool.true_and]
theorem ok_zero {h : HP} (hz : ∃ j, j < (h.nl ++ h.cl).length ∧ ix (h.nl ++ h.cl) j = 0) : h.ok = false := by
  cases hk : h.ok with
  | false => rfl
  | true =>
    have ho := ok_parts hk
    obtain ⟨j, hj, h0⟩ := hz
    rw [List.length_append] at hj
    have e1 := nz_le h.nl
    have e2 := nz_le h.cl
    rcases Nat.lt_or_ge j h.nl.length with h1 | h1
    · rw [ix_app_left h1] at h0
      exact absurd h0 (nz_nz (by have := ho.2.2.1.2.1; omega))
    · rw [ix_append, if_neg (by omega)] at h0
      exact absurd h0 (nz_nz (by have := ho.2.2.2.2.1; omega))
set_option maxRecDepth 100000 in
set_option maxHeartbeats 2000000 in
theorem lgood_any (w : World) (h : HP) (X : Option Addr) (m cc : Nat) (hx : m = h.xl.length) (hb : h.bd) (hm : m ≤ 100000) (hnl : h.nl.length ≤ 10000) (hcl : h.cl.length ≤ 10000) :
    Calls Try.prog 8 #[hagg (h.v (.slice X m cc))] w fun e w' => e = .returned (.bool h.ok) ∧ Below w.heap.size w w' := by
  obtain ⟨tx, sm, tm, fl, sy, xl, hE, nl, cl, hN, hC⟩ := h
  unfold hagg HP.v
  dsimp only at hx hnl hcl ⊢
  have HX := Lib.hid hx
  have Hs1 := Lib.hid (strOf_size nl)
  have Hs2 := Lib.hid (strOf_size cl)
  have hz1 : (strOf nl).size = nl.length := Hs1.out
  have hz2 : (strOf cl).size = cl.length := Hs2.out
  have hmI : (0 : Int) ≤ m ∧ (m : Int) ≤ 9223372036854775807 := by omega
  have hnI : (nl.length : Int) ≤ 9223372036854775807 := by omega
  have hcI : (cl.length : Int) ≤ 9223372036854775807 := by omega
  have hbl := (Below.refl w.heap.size w).alloc (Nat.le_refl _) (.cells #[.bool tx, .bool sm, .int .u32 tm, .int .u8 fl, .int .u8 sy, .slice X m cc, .bool hE, .string (strOf nl), .string (strOf cl), .bool hN, .bool hC] 25)
  clear hx
  have hcat := strOf_append nl cl
  have hz3 : (strOf (nl ++ cl)).size = nl.length + cl.length := by rw [strOf_size, List.length_append]
  have hI : (nl.length : Int) ≤ 10000 ∧ (cl.length : Int) ≤ 10000 := by omega
  go_enter Try.func8, Try.ntmps8
  go_wp2
  go_loop [3] (fun i => ∃ (k : Nat), k ≤ nl.length + cl.length ∧ i = .int .i64 (k : Int) ∧ Hid (∀ j, j < k → ix (nl ++ cl) j ≠ 0)) (fun i => (nl.length + cl.length - (intOf i).toNat))
  case atStart => exact ⟨0, by omega, rfl, fun j hj => by omega⟩
  case round =>
    obtain ⟨k, hk, rfl, HZ⟩ := hrel
    by_cases hlt : k < nl.length + cl.length
    · have hkI : (0 : Int) ≤ k ∧ (k : Int) < (nl.length : Int) + (cl.length : Int) := by omega
      have hk2 : k < (strOf (nl ++ cl)).size := by omega
      have HA := Lib.hid (strOf_at (l := nl ++ cl) (app_bd hb.nl hb.cl) hk2)
      go_wp2_with fail
      · go_ret
        have h9 : (((strOf (nl ++ cl))[k].toNat : Int) == 0) = true := by assumption
        rw [HA.out] at h9
        refine ⟨ret_bool ?_, hbl⟩
        exact (ok_zero (h := ⟨tx, sm, tm, fl, sy, xl, hE, nl, cl, hN, hC⟩) ⟨k, by rw [List.length_append]; exact hlt, by simpa using h9⟩).symm
      · go_round
        case rel => exact ⟨k + 1, by omega, by go_num, fun j hj => by
          rcases Nat.lt_or_ge j k with h1 | h1
          · exact HZ.out j h1
          · obtain rfl : j = k := by omega
            intro h0
            have h9 : (((strOf (nl ++ cl))[j].toNat : Int) == 0) = false := by assumption
            rw [HA.out, h0] at h9
            cases h9⟩
        case measure => simp [intOf]; omega
    · have hz : ∀ j, j < nl.length + cl.length → ix (nl ++ cl) j ≠ 0 := fun j hj => HZ.out j (by omega)
      have HG := Lib.hid (ok_val (h := ⟨tx, sm, tm, fl, sy, xl, hE, nl, cl, hN, hC⟩) hz)
      obtain rfl : nl.length + cl.length = k := by omega
      dsimp only at HG
      rw [← HX.out] at HG
      clear HZ hz
      obtain ⟨n1, hn1⟩ : ∃ n, nl.length = n := ⟨_, rfl⟩
      obtain ⟨n2, hn2⟩ : ∃ n, cl.length = n := ⟨_, rfl⟩
      rw [hn1] at hz1 hI HG
      rw [hn2] at hz2 hI HG
      rw [hn1, hn2] at hz3
      clear hz3 hcat Hs1 Hs2 hnI hcI hnl hcl hk hlt
      generalize hkk : nl.length + cl.length = kk
      have hkI : (0 : Int) ≤ kk ∧ (kk : Int) = n1 + n2 := by omega
      have hkd : ((kk : Int) < n1 + n2) = False := by simp; omega
      clear hn1 hn2 hkk hkI hb
      by_cases g0 : (m : Int) ≤ 65535
      · have g0N := Lib.hid (show m ≤ 65535 by omega)
        rcases (show hE = true ∨ (hE = false ∧ m = 0) ∨ (hE = false ∧ 0 < m) by cases hE <;> simp <;> omega) with rfl | ⟨rfl, rfl⟩ | ⟨rfl, gm⟩
        · by_cases g2 : (n1 : Int) ≤ 4096
          · have g2N := Lib.hid (show n1 ≤ 4096 by omega)
            rcases (show hN = true ∨ (hN = false ∧ nl = []) ∨ (hN = false ∧ ∃ x l, nl = x :: l) by cases hN <;> cases nl <;> simp) with rfl | ⟨rfl, rfl⟩ | ⟨rfl, x, l, rfl⟩
            · by_cases g4 : (n2 : Int) ≤ 4096
              · have g4N := Lib.hid (show n2 ≤ 4096 by omega)
                rcases (show hC = true ∨ (hC = false ∧ cl = []) ∨ (hC = false ∧ ∃ x l, cl = x :: l) by cases hC <;> cases cl <;> simp) with rfl | ⟨rfl, rfl⟩ | ⟨rfl, x, l, rfl⟩
                · go_wp2
                  go_ret
                  exact ⟨ret_bool (by rw [HG.out]; simp [g0N.out, g2N.out, g4N.out]), hbl⟩
                · have he5 := strOf_nil_empty
                  go_wp2
                  go_ret
                  exact ⟨ret_bool (by rw [HG.out]; simp [g0N.out, g2N.out, g4N.out]), hbl⟩
                · have he5 := strOf_cons_empty x l
                  go_wp2
                  go_ret
                  exact ⟨ret_bool (by rw [HG.out]; simp [g0N.out, g2N.out, g4N.out]), hbl⟩
              · have g4N := Lib.hid (show ¬ n2 ≤ 4096 by omega)
                have g4F : ((n2 : Int) ≤ 4096) = False := eq_false g4
                clear g4
                go_wp2
                go_ret
                exact ⟨ret_bool (by rw [HG.out]; simp [g0N.out, g2N.out, g4N.out]), hbl⟩
            · have he3 := strOf_nil_empty
              by_cases g4 : (n2 : Int) ≤ 4096
              · have g4N := Lib.hid (show n2 ≤ 4096 by omega)
                rcases (show hC = true ∨ (hC = false ∧ cl = []) ∨ (hC = false ∧ ∃ x l, cl = x :: l) by cases hC <;> cases cl <;> simp) with rfl | ⟨rfl, rfl⟩ | ⟨rfl, x, l, rfl⟩
                · go_wp2
                  go_ret
                  exact ⟨ret_bool (by rw [HG.out]; simp [g0N.out, g2N.out, g4N.out]), hbl⟩
                · have he5 := strOf_nil_empty
                  have h12 : n1 = n2 := hz1.symm.trans hz2
                  rw [← h12] at hkd
                  clear h12
                  go_wp2
                  go_ret
                  exact ⟨ret_bool (by rw [HG.out]; simp [g0N.out, g2N.out, g4N.out]), hbl⟩
                · have he5 := strOf_cons_empty x l
                  go_wp2
                  go_ret
                  exact ⟨ret_bool (by rw [HG.out]; simp [g0N.out, g2N.out, g4N.out]), hbl⟩
              · have g4N := Lib.hid (show ¬ n2 ≤ 4096 by omega)
                have g4F : ((n2 : Int) ≤ 4096) = False := eq_false g4
                clear g4
                go_wp2
                go_ret
                exact ⟨ret_bool (by rw [HG.out]; simp [g0N.out, g2N.out, g4N.out]), hbl⟩
            · have he3 := strOf_cons_empty x l
              go_wp2
              go_ret
              exact ⟨ret_bool (by rw [HG.out]; simp [g0N.out, g2N.out]), hbl⟩
          · have g2N := Lib.hid (show ¬ n1 ≤ 4096 by omega)
            have g2F : ((n1 : Int) ≤ 4096) = False := eq_false g2
            clear g2
            go_wp2
            go_ret
            exact ⟨ret_bool (by rw [HG.out]; simp [g0N.out, g2N.out]), hbl⟩
        · by_cases g2 : (n1 : Int) ≤ 4096
          · have g2N := Lib.hid (show n1 ≤ 4096 by omega)
            rcases (show hN = true ∨ (hN = false ∧ nl = []) ∨ (hN = false ∧ ∃ x l, nl = x :: l) by cases hN <;> cases nl <;> simp) with rfl | ⟨rfl, rfl⟩ | ⟨rfl, x, l, rfl⟩
            · by_cases g4 : (n2 : Int) ≤ 4096
              · have g4N := Lib.hid (show n2 ≤ 4096 by omega)
                rcases (show hC = true ∨ (hC = false ∧ cl = []) ∨ (hC = false ∧ ∃ x l, cl = x :: l) by cases hC <;> cases cl <;> simp) with rfl | ⟨rfl, rfl⟩ | ⟨rfl, x, l, rfl⟩
                · go_wp2
                  go_ret
                  exact ⟨ret_bool (by rw [HG.out]; simp [g0N.out, g2N.out, g4N.out]), hbl⟩
                · have he5 := strOf_nil_empty
                  go_wp2
                  go_ret
                  exact ⟨ret_bool (by rw [HG.out]; simp [g0N.out, g2N.out, g4N.out]), hbl⟩
                · have he5 := strOf_cons_empty x l
                  go_wp2
                  go_ret
                  exact ⟨ret_bool (by rw [HG.out]; simp [g0N.out, g2N.out, g4N.out]), hbl⟩
              · have g4N := Lib.hid (show ¬ n2 ≤ 4096 by omega)
                have g4F : ((n2 : Int) ≤ 4096) = False := eq_false g4
                clear g4
                go_wp2
                go_ret
                exact ⟨ret_bool (by rw [HG.out]; simp [g0N.out, g2N.out, g4N.out]), hbl⟩
            · have he3 := strOf_nil_empty
              by_cases g4 : (n2 : Int) ≤ 4096
              · have g4N := Lib.hid (show n2 ≤ 4096 by omega)
                rcases (show hC = true ∨ (hC = false ∧ cl = []) ∨ (hC = false ∧ ∃ x l, cl = x :: l) by cases hC <;> cases cl <;> simp) with rfl | ⟨rfl, rfl⟩ | ⟨rfl, x, l, rfl⟩
                · go_wp2
                  go_ret
                  exact ⟨ret_bool (by rw [HG.out]; simp [g0N.out, g2N.out, g4N.out]), hbl⟩
                · have he5 := strOf_nil_empty
                  have h12 : n1 = n2 := hz1.symm.trans hz2
                  rw [← h12] at hkd
                  clear h12
                  go_wp2
                  go_ret
                  exact ⟨ret_bool (by rw [HG.out]; simp [g0N.out, g2N.out, g4N.out]), hbl⟩
                · have he5 := strOf_cons_empty x l
                  go_wp2
                  go_ret
                  exact ⟨ret_bool (by rw [HG.out]; simp [g0N.out, g2N.out, g4N.out]), hbl⟩
              · have g4N := Lib.hid (show ¬ n2 ≤ 4096 by omega)
                have g4F : ((n2 : Int) ≤ 4096) = False := eq_false g4
                clear g4
                go_wp2
                go_ret
                exact ⟨ret_bool (by rw [HG.out]; simp [g0N.out, g2N.out, g4N.out]), hbl⟩
            · have he3 := strOf_cons_empty x l
              go_wp2
              go_ret
              exact ⟨ret_bool (by rw [HG.out]; simp [g0N.out, g2N.out]), hbl⟩
          · have g2N := Lib.hid (show ¬ n1 ≤ 4096 by omega)
            have g2F : ((n1 : Int) ≤ 4096) = False := eq_false g2
            clear g2
            go_wp2
            go_ret
            exact ⟨ret_bool (by rw [HG.out]; simp [g0N.out, g2N.out]), hbl⟩
        · have gm1 : ((m : Int) == 0) = false := by simp; omega
          have gm2 := Lib.hid (show ¬ m = 0 by omega)
          go_wp2
          go_ret
          exact ⟨ret_bool (by rw [HG.out]; simp [g0N.out, gm2.out]), hbl⟩
      · have g0N := Lib.hid (show ¬ m ≤ 65535 by omega)
        have g0F : ((m : Int) ≤ 65535) = False := eq_false g0
        clear g0
        go_wp2
        go_ret
        exact ⟨ret_bool (by rw [HG.out]; simp [g0N.out]), hbl⟩
end Go.Proofs.Ytgdmhicfeipbjaa
