/-
  Words for a gzip header in memory.
-/
import Derived.Test.YtkmpohgbbfhciaaGreatProg
import Derived.Test.YtkmpohgbbfhciaaGreatChg
import Derived.Test.YtkmpohgbbfhciaaGreatStr
import Derived.Test.YtkmpohgbbfhciaaGreatHdP
namespace Go.Proofs.YtkmpohgbbfhciaaGreat
open Go.RowKit
set_option linter.unusedVariables false

/-- a header in memory -/
structure HV where
  tx : Bool
  sm : Bool
  tm : Int
  fl : Int
  sy : Int
  ex : Value
  hE : Bool
  nm : ByteArray
  cm : ByteArray
  hN : Bool
  hC : Bool
def hf (h : HV) : Nat → Value
  | 0 => .bool h.tx
  | 1 => .bool h.sm
  | 2 => .int .u32 h.tm
  | 3 => .int .u8 h.fl
  | 4 => .int .u8 h.sy
  | 5 => h.ex
  | 6 => .bool h.hE
  | 7 => .string h.nm
  | 8 => .string h.cm
  | 9 => .bool h.hN
  | _ => .bool h.hC
/-- a header as one value -/
def hagg (h : HV) : Value := .agg #[.bool h.tx, .bool h.sm, .int .u32 h.tm, .int .u8 h.fl, .int .u8 h.sy, h.ex, .bool h.hE, .string h.nm, .string h.cm, .bool h.hN, .bool h.hC]
def hz : HV := ⟨false, false, 0, 0, 0, .slice none 0 0, false, ByteArray.empty, ByteArray.empty, false, false⟩
theorem Ar.new' {w : World} {g m : Nat} {f : Nat → Value} (hg : g = w.heap.size) (cs : Array Value) (t : TypeId) (hm : cs.size = m) (hf : ∀ i, i < m → cs[i]? = some (f i)) : Ar (w.alloc (.cells cs t)) g m f := by
  subst hg; exact Ar.new w cs t hm hf
theorem lt11 {i : Nat} (h : i < 11) : i = 0 ∨ i = 1 ∨ i = 2 ∨ i = 3 ∨ i = 4 ∨ i = 5 ∨ i = 6 ∨ i = 7 ∨ i = 8 ∨ i = 9 ∨ i = 10 := by omega
theorem below_drewN {B : Nat} {w w' : World} (h : Below B w w') (q : Nat) : Below B w (w'.drewN q) := ⟨h.os, h.tape, h.output, h.size, h.block⟩
theorem Ar.hset {w : World} {R : Nat} {h h' : HV} (ha : Ar w R 11 (hf h)) {i : Nat} (hi : i < 11) (v : Value) (he : ∀ j, j < 11 → upd (hf h) i v j = hf h' j) : Ar (w.setCell ⟨R, i, none⟩ v) R 11 (hf h') := (ha.set_ hi v).congr he
theorem rbyte_info : (Tryz.prog.info? 5).map (fun i => (i.zero, i.size, i.bytes)) = some (some (.int .u8 0), 1, 1) := by kernel_rfl
theorem take_bd {l : List Int} (h : ∀ x ∈ l, 0 ≤ x ∧ x < 256) (k : Nat) : ∀ x ∈ l.take k, 0 ≤ x ∧ x < 256 := fun x hx => h x (List.mem_of_mem_take hx)
theorem drop_bd {l : List Int} (h : ∀ x ∈ l, 0 ≤ x ∧ x < 256) (k : Nat) : ∀ x ∈ l.drop k, 0 ≤ x ∧ x < 256 := fun x hx => h x (List.mem_of_mem_drop hx)

end Go.Proofs.YtkmpohgbbfhciaaGreat
