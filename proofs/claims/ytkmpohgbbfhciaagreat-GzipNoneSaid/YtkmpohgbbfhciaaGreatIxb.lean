/-
  The walk of strings.IndexByte.
-/
import Derived.Test.YtkmpohgbbfhciaaGreatProg
import Derived.Test.YtkmpohgbbfhciaaGreatHdP
import Derived.Test.YtkmpohgbbfhciaaGreatStr
import Derived.Lib.Bytealg
import Derived.Laws.Externs
namespace Go.Proofs.YtkmpohgbbfhciaaGreat
open Go.RowKit
set_option linter.unusedVariables false

set_option maxRecDepth 100000 in
theorem ixb_any (w : World) (s : ByteArray) (c : Int) :
    Calls Tryz.prog 39 #[.string s, .int .u8 c] w fun e w' => e = .returned (.int .i64 (Lib.indexByte s.data.toList c.toNat.toUInt8)) ∧ w = w' := by
  go_enter Tryz.func39, Tryz.ntmps39
  go_wp2
  rw [run_callFunc_extern Tryz.func78 (by kernel_rfl) (by kernel_rfl) (by kernel_rfl) (e := Extern.BytealgIndexByte.indexByte) (by kernel_rfl), Lib.run_indexByteString]
  simp only [Result.andThen]
  rw [Oper.upon_value]
  go_wp2
  go_ret
  exact ⟨rfl, rfl⟩
theorem strOf_data (l : List Int) : (strOf l).data.toList = l.map fun n => UInt8.ofNat n.toNat := by
  have : ∀ (l : List Int) (s : ByteArray), (l.foldl (fun r n => r.push (UInt8.ofNat n.toNat)) s).data.toList = s.data.toList ++ l.map fun n => UInt8.ofNat n.toNat := by
    intro l
    induction l with
    | nil => intro s; simp
    | cons a l ih => intro s; rw [List.foldl_cons, ih]; simp [ByteArray.push]
  rw [strOf, this]; simp
theorem u8_zero {x : Int} (h : 0 ≤ x ∧ x < 256) : (UInt8.ofNat x.toNat == 0) = decide (x = 0) := by
  obtain ⟨k, rfl⟩ := Int.eq_ofNat_of_zero_le h.1
  have hk : k < 256 := by omega
  have : (UInt8.ofNat k = 0) ↔ k = 0 := by
    rw [← UInt8.toNat_inj]; simp; omega
  rw [show (Int.toNat (k : Int)) = k by simp]
  by_cases h0 : k = 0
  · simp [h0]
  · have h1 : ¬ UInt8.ofNat k = 0 := fun h => h0 (this.1 h)
    simp [h0, h1]
/-- where the first 0 of a text is -/
theorem ixb_nz {l : List Int} (h : ∀ x ∈ l, 0 ≤ x ∧ x < 256) : Lib.indexByte (strOf l).data.toList (Int.toNat 0).toUInt8 = if nz l < l.length then (nz l : Int) else -1 := by
  rw [strOf_data]
  induction l with
  | nil => simp [Lib.indexByte]
  | cons x l ih =>
    have ih' := ih fun y hy => h y (List.mem_cons_of_mem _ hy)
    have hx := u8_zero (h x (List.mem_cons_self ..))
    rw [List.map_cons]
    unfold Lib.indexByte
    rw [show (Int.toNat 0).toUInt8 = 0 from rfl] at ih' ⊢
    rw [ih', hx, nz_cons]
    by_cases h0 : x = 0
    · simp [h0]
    · simp only [h0, decide_false, Bool.false_eq_true, if_false, List.length_cons]
      by_cases h1 : nz l < l.length
      · have h2 : ¬ ((nz l : Int) == -1) = true := by simp
        have h3 : nz l + 1 < l.length + 1 := by omega
        rw [if_pos h1, if_neg h2, if_pos h3]; rfl
      · have h3 : ¬ nz l + 1 < l.length + 1 := by omega
        rw [if_neg h1, if_neg h3]; simp
theorem nz_take {l : List Int} {k : Nat} : nz (l.take k) = min (nz l) k := by
  induction l generalizing k with
  | nil => simp [nz]
  | cons x l ih =>
    cases k with
    | zero => simp [nz]
    | succ k =>
      rw [List.take_succ_cons, nz_cons, nz_cons]
      split
      · omega
      · rw [ih]; omega
/-- 'string(b)', b anywhere -/
theorem run_to_string_at {P : Program} {w : World} (src dst e : TypeId) {ad : Addr} {B n : Nat} (c : Nat) {l : List Int} (hs : P.underlying src = some (.slice e)) (he : P.underlying e = some (.int .u8)) (hd : P.underlying dst = some .string)
    (h : RdI .u8 w B (some ad) n l) : (convert src dst (.slice (some ad) n c)).run P w = .ok (.string (strOf l)) w := by
  have hn := h.1
  subst hn
  rw [run_convert_bytes_string w src dst e _ _ c hs he hd]
  refine run_bytesToString w _ _ c l ?_
  have := run_loadCells_list (P := P) w ad (l.map (Value.int .u8)) (fun j v hv => by
    have hj : j < l.length := by
      rcases Nat.lt_or_ge j l.length with h' | h'
      · exact h'
      · rw [List.getElem?_eq_none (by simpa using h')] at hv; cases hv
    obtain ⟨a2, he, _, hc⟩ := h.at_ hj
    cases he
    rw [hc]
    simp [hj] at hv
    rw [← hv]
    simp [ix, hj])
  simpa using this
end Go.Proofs.YtkmpohgbbfhciaaGreat
