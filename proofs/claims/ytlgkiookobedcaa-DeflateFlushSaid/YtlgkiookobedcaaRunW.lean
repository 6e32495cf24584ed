/-
  The walks of block.repeated and block.runs.
-/
import Derived.Test.YtlgkiookobedcaaProg
import Derived.Test.YtlgkiookobedcaaPk3
import Derived.Handy
namespace Go.Proofs.Ytlgkiookobedcaa
open Go.RowKit
set_option linter.unusedVariables false
def rnAt (l : List Rn) (i : Nat) : Rn := l.getD i ⟨0, 0, 0⟩
def rnf (r : Rn) : Nat → Value
  | 0 => .int .i64 r.c
  | 1 => .int .i64 r.v
  | _ => .int .i64 r.e
def rnV (l : List Rn) (i : Nat) : Value := rnf (rnAt l (i / 3)) (i % 3)
theorem rnV_0 (l : List Rn) (i : Nat) : rnV l (i * 3) = .int .i64 (rnAt l i).c := by unfold rnV; rw [show i * 3 / 3 = i by omega, show i * 3 % 3 = 0 by omega]; rfl
theorem rnV_1 (l : List Rn) (i : Nat) : rnV l (i * 3 + 1) = .int .i64 (rnAt l i).v := by unfold rnV; rw [show (i * 3 + 1) / 3 = i by omega, show (i * 3 + 1) % 3 = 1 by omega]; rfl
theorem rnV_2 (l : List Rn) (i : Nat) : rnV l (i * 3 + 2) = .int .i64 (rnAt l i).e := by unfold rnV; rw [show (i * 3 + 2) / 3 = i by omega, show (i * 3 + 2) % 3 = 2 by omega]; rfl
theorem rnV_one (l : List Rn) (i : Nat) : (rnV l i).oneCell' = true := by
  unfold rnV rnf
  split <;> rfl
theorem rnAt_append (l l' : List Rn) (i : Nat) : rnAt (l ++ l') i = if i < l.length then rnAt l i else rnAt l' (i - l.length) := by
  unfold rnAt
  simp only [List.getD_eq_getElem?_getD]
  split
  · rw [List.getElem?_append_left (by assumption)]
  · rw [List.getElem?_append_right (by omega)]
theorem rnV_cat (l l' : List Rn) (i : Nat) : cat (l.length * 3) (rnV l) (rnV l') i = rnV (l ++ l') i := by
  unfold cat rnV
  rw [rnAt_append]
  by_cases h : i < l.length * 3
  · rw [if_pos h, if_pos (by omega)]
  · rw [if_neg h, if_neg (by omega), show (i - l.length * 3) / 3 = i / 3 - l.length by omega, show (i - l.length * 3) % 3 = i % 3 by omega]
def RdR (w : World) (B : Nat) (A : Option Addr) (n : Nat) (l : List Rn) : Prop := n = l.length ∧ Rd w B A (n * 3) (rnV l)
def OwnR (w : World) (b0 : Nat) (A : Option Addr) (n c : Nat) (l : List Rn) : Prop := n = l.length ∧ Own w b0 115 3 A n c (rnV l)
section
variable {w w' : World} {b0 B n c : Nat} {A : Option Addr} {l : List Rn}
theorem OwnR.rd (h : OwnR w b0 A n c l) : RdR w w.heap.size A n l := ⟨h.1, h.2.rd⟩
theorem OwnR.nil_ : OwnR w b0 none 0 0 [] := ⟨rfl, Own.nil_⟩
theorem OwnR.alloc (h : OwnR w b0 A n c l) (o : Obj) : OwnR (w.alloc o) b0 A n c l := ⟨h.1, h.2.alloc o⟩
theorem OwnR.below {B : Nat} (h : OwnR w b0 A n c l) (hb : Below B w w') (hB : ∀ g, blkOf A = some g → g < B) : OwnR w' b0 A n c l := ⟨h.1, h.2.below hb hB⟩
theorem OwnR.keeps (h : OwnR w b0 A n c l) (hb : Below w.heap.size w w') : OwnR w' b0 A n c l := h.below hb fun _ hg => (h.2.lt hg).2
theorem OwnR.more {b1 : Nat} (h : OwnR w b0 A n c l) (hb : b1 ≤ b0) : OwnR w b1 A n c l := ⟨h.1, h.2.more hb⟩
theorem RdR.below (h : RdR w B A n l) (hb : Below B w w') : RdR w' B A n l := ⟨h.1, h.2.below hb⟩
theorem RdR.more {B' : Nat} (h : RdR w B A n l) (hB : B ≤ B') : RdR w B' A n l := ⟨h.1, h.2.more hB⟩
theorem rnf_new (w : World) (r : Rn) (t : TypeId) : Ar (w.alloc (.cells #[.int .i64 r.c, .int .i64 r.v, .int .i64 r.e] t)) w.heap.size 3 (rnf r) :=
  Ar.new w _ t rfl fun i hi => by
    obtain rfl | rfl | rfl : i = 0 ∨ i = 1 ∨ i = 2 := by omega
    · rfl
    · rfl
    · rfl
theorem RdR.lit (w : World) (a b d : Int) (t : TypeId) : RdR (w.alloc (.cells #[.int .i64 a, .int .i64 b, .int .i64 d] t)) (w.heap.size + 1) (some ⟨w.heap.size, 0, none⟩) 1 [⟨a, b, d⟩] := ⟨rfl, fun _ => ⟨_, rfl, by simp, fun i hi => by
  rw [addr0]
  have h := (rnf_new w ⟨a, b, d⟩ t).cell (i := i) (by omega)
  rw [h]
  unfold rnV
  rw [show i / 3 = 0 by omega, show i % 3 = i by omega]
  rfl⟩⟩
theorem run_info : (Try.prog.info? 115).map (fun i => (i.zero, i.size, i.bytes)) = some (some (.agg #[.int .i64 0, .int .i64 0, .int .i64 0]), 3, 24) := by kernel_rfl
theorem wpList_appR {w : World} {ops : Array Oper} {rest : List Oper} {o : Oper} {a : Act} {Q : Exit → Act → World → Prop} (b0 : Nat) (i : TypeInfo) (hgd : Region.wanted o (yielded ops a.tmps) = true) (s x : Operand)
    (ho : o.op = .call { callee := .builtin .append, args := #[s, x], argTypes := #[90, 90] }) (hi : Try.prog.info? 115 = some i) (hz : i.zero = some (.agg #[.int .i64 0, .int .i64 0, .int .i64 0]))
    (hsize : i.size = 3) (hby : i.bytes = 24) {A : Option Addr} {n c : Nat} {l : List Rn} (hs : a.eval s = .slice A n c) (hown : OwnR w b0 A n c l)
    {B : Nat} {A' : Option Addr} {m c' : Nat} {l' : List Rn} (hx : a.eval x = .slice A' m c') (hr : RdR w B A' m l')
    (h63 : n + m ≤ 1000000000000) (hbase : b0 ≤ w.heap.size)
    (h : ∀ A2 c2 w2, OwnR w2 b0 A2 (n + m) c2 (l ++ l') → w.grownBy w2 (blkOf A) → (blkOf A2 = blkOf A ∨ blkOf A2 = some w.heap.size) → wpList Try.prog ops Q rest (a.put o.dst (.slice A2 (n + m) c2)) w2) : wpList Try.prog ops Q (o :: rest) a w := by
  refine wpList_step fun K hK => ?_
  rw [if_pos hgd]
  obtain ⟨A2, c2, w2, hrun, h2, h3, h4⟩ := run_append_cat (P := Try.prog) w b0 90 o.type 115 i _ 3 24 Try.underlying90 hi hz hsize hby rfl (by omega) A n c _ hown.2 B A' m c' _ hr.2 (fun j _ => rnV_one l' j) h63 (by omega) hbase
  unfold Oper.wp execOp
  simp only [ho, resolve, invoke, builtin, Sem.run_bind, Sem.run_pure, Result.andThen_ok, List.map_toArray, List.map_cons, List.map_nil, hs, hx, hrun]
  exact hK _ _ (h A2 c2 w2 ⟨by rw [List.length_append, ← hown.1, ← hr.1], h2.congr fun j hj => by rw [hown.1, rnV_cat]⟩ h3 h4)
end
def RunPost (w : World) (L : List Rn) (e : Ending) (w' : World) : Prop := ∃ A n c, e = .returned (.slice A n c) ∧ OwnR w' w.heap.size A n c L ∧ Below w.heap.size w w'
def RepQ (w : World) (k : Int) (n0 : Nat) (gk : Nat) (v1 v5 : Value) (wr : World) : Prop :=
  ∃ (n m c : Nat) (A : Option Addr) (L : List Rn), v1 = .int .i64 n ∧ v5 = .slice A m c ∧ n ≤ n0 ∧ m + n ≤ n0 ∧ Hid (OwnR wr w.heap.size A m c L) ∧ Hid (L ++ repP k n = repP k n0) ∧ Hid (Below w.heap.size w wr) ∧ gk = n
set_option maxRecDepth 100000 in
set_option maxHeartbeats 4000000 in
theorem repeated_any (w : World) (k : Int) (n0 : Nat) (hn : n0 ≤ 1000000) (hk : 0 ≤ k) : Calls Try.prog 84 #[.int .i64 k, .int .i64 n0] w (RunPost w (repP k n0)) := by
  obtain ⟨i0, hi, hz0, hz1, hz2⟩ := info_parts run_info
  have HI := Lib.hid (⟨hi, hz0, hz1, hz2⟩ : _ ∧ _ ∧ _ ∧ _)
  clear hi hz0 hz1 hz2
  go_enter Try.func84, Try.ntmps84
  go_wp2_with fail
  go_loopg [1, 5] n0 (RepQ w k n0)
  case atStart => exact ⟨n0, 0, 0, none, [], rfl, rfl, Nat.le_refl _, by omega, OwnR.nil_, rfl, Below.refl _ _, rfl⟩
  case round =>
    obtain ⟨n, m, c, A, L, rfl, rfl, hnn, hmn, ho, hL, hb, rfl⟩ := hrel
    have hnI : (0 : Int) ≤ (gk : Int) ∧ (gk : Int) ≤ 1000000 := by omega
    by_cases h0 : gk = 0
    · subst h0
      have HL : Hid (L = repP k n0) := by have := hL.out; rw [repP_zero, List.append_nil] at this; exact this
      clear hL
      go_wp2_with fail
      go_ret
      exact ⟨A, m, c, rfl, by rw [← HL.out]; exact ho.out, hb.out⟩
    · have h0I : (0 : Int) < (gk : Int) := by omega
      by_cases hk0 : k = 0
      · subst hk0
        by_cases h11 : 11 ≤ gk
        · have h11I : (11 : Int) ≤ (gk : Int) := by omega
          have hLL := hL.out
          rw [repP_long h11] at hLL
          have HLL : Hid (∀ (q : Nat) (x : Int), min gk 138 = q → x = ((q : Nat) : Int) - 11 → (L ++ [⟨18, x, 7⟩]) ++ repP 0 (gk - q) = repP 0 n0) := fun q x hq hx => by rw [hx, ← hq, List.append_assoc]; exact hLL
          clear hLL hL
          have hcs : (gk < 138 ∧ (gk : Int) < 138) ∨ (138 < gk ∧ (138 : Int) < (gk : Int)) ∨ gk = 138 := by omega
          rcases hcs with ⟨h, hI⟩ | ⟨h, hI⟩ | rfl
          · have hoA := ho.out.alloc (.cells #[.int .i64 18, .int .i64 ((gk : Int) - 11), .int .i64 7] 115)
            have hbA := hb.out.alloc hb.out.size (.cells #[.int .i64 18, .int .i64 ((gk : Int) - 11), .int .i64 7] 115)
            have HOA := Lib.hid (⟨hoA, hbA⟩ : _ ∧ _)
            clear hoA hbA
            go_wp2_with (at_builtin; (refine wpList_appR w.heap.size i0 rfl (.tmp 26) (.tmp 30) rfl HI.out.1 HI.out.2.1 HI.out.2.2.1 HI.out.2.2.2 rfl HOA.out.1 rfl (RdR.lit wr 18 ((gk : Int) - 11) 7 115) (by omega) HOA.out.2.size ?_)
                         intro A4 d4 w4 hown4 hg4 hat4
                         have HO4 := Lib.hid (⟨hown4, HOA.out.2.grown hg4 HOA.out.2.size fun q hq => (ho.out.2.lt hq).1⟩ : _ ∧ _)
                         clear hown4 hg4 hat4)
            go_roundg (gk - gk)
            case measure => omega
            case rel => exact ⟨gk - gk, m + 1, d4, A4, _, by simp, rfl, by omega, by omega, HO4.out.1, HLL.out gk ((gk : Int) - 11) (by omega) (by omega), HO4.out.2, rfl⟩
          · have hoA := ho.out.alloc (.cells #[.int .i64 18, .int .i64 127, .int .i64 7] 115)
            have hbA := hb.out.alloc hb.out.size (.cells #[.int .i64 18, .int .i64 127, .int .i64 7] 115)
            have HOA := Lib.hid (⟨hoA, hbA⟩ : _ ∧ _)
            clear hoA hbA
            go_wp2_with (at_builtin; (refine wpList_appR w.heap.size i0 rfl (.tmp 26) (.tmp 30) rfl HI.out.1 HI.out.2.1 HI.out.2.2.1 HI.out.2.2.2 rfl HOA.out.1 rfl (RdR.lit wr 18 127 7 115) (by omega) HOA.out.2.size ?_)
                         intro A4 d4 w4 hown4 hg4 hat4
                         have HO4 := Lib.hid (⟨hown4, HOA.out.2.grown hg4 HOA.out.2.size fun q hq => (ho.out.2.lt hq).1⟩ : _ ∧ _)
                         clear hown4 hg4 hat4)
            go_roundg (gk - 138)
            case measure => omega
            case rel => exact ⟨gk - 138, m + 1, d4, A4, _, by go_num, rfl, by omega, by omega, HO4.out.1, HLL.out 138 127 (by omega) (by omega), HO4.out.2, rfl⟩
          · have hoA := ho.out.alloc (.cells #[.int .i64 18, .int .i64 127, .int .i64 7] 115)
            have hbA := hb.out.alloc hb.out.size (.cells #[.int .i64 18, .int .i64 127, .int .i64 7] 115)
            have HOA := Lib.hid (⟨hoA, hbA⟩ : _ ∧ _)
            clear hoA hbA
            go_wp2_with (at_builtin; (refine wpList_appR w.heap.size i0 rfl (.tmp 26) (.tmp 30) rfl HI.out.1 HI.out.2.1 HI.out.2.2.1 HI.out.2.2.2 rfl HOA.out.1 rfl (RdR.lit wr 18 127 7 115) (by omega) HOA.out.2.size ?_)
                         intro A4 d4 w4 hown4 hg4 hat4
                         have HO4 := Lib.hid (⟨hown4, HOA.out.2.grown hg4 HOA.out.2.size fun q hq => (ho.out.2.lt hq).1⟩ : _ ∧ _)
                         clear hown4 hg4 hat4)
            go_roundg 0
            case measure => omega
            case rel => exact ⟨0, m + 1, d4, A4, _, rfl, rfl, by omega, by omega, HO4.out.1, HLL.out 138 127 (by omega) (by omega), HO4.out.2, rfl⟩
        · have h11I : ¬ (11 : Int) ≤ (gk : Int) := by omega
          by_cases h3 : 3 ≤ gk
          · have h3I : (3 : Int) ≤ (gk : Int) := by omega
            have hLL := hL.out
            rw [repP_short h3 h11] at hLL
            have HLL := Lib.hid hLL
            clear hLL hL
            have hoA := ho.out.alloc (.cells #[.int .i64 17, .int .i64 ((gk : Int) - 3), .int .i64 3] 115)
            have hbA := hb.out.alloc hb.out.size (.cells #[.int .i64 17, .int .i64 ((gk : Int) - 3), .int .i64 3] 115)
            have HOA := Lib.hid (⟨hoA, hbA⟩ : _ ∧ _)
            clear hoA hbA
            go_wp2_with (at_builtin; (refine wpList_appR w.heap.size i0 rfl (.tmp 42) (.tmp 46) rfl HI.out.1 HI.out.2.1 HI.out.2.2.1 HI.out.2.2.2 rfl HOA.out.1 rfl (RdR.lit wr 17 ((gk : Int) - 3) 3 115) (by omega) HOA.out.2.size ?_)
                         intro A4 d4 w4 hown4 hg4 hat4
                         have HO4 := Lib.hid (⟨hown4, HOA.out.2.grown hg4 HOA.out.2.size fun q hq => (ho.out.2.lt hq).1⟩ : _ ∧ _)
                         clear hown4 hg4 hat4)
            go_roundg 0
            case measure => omega
            case rel => exact ⟨0, m + 1, d4, A4, _, rfl, rfl, by omega, by omega, HO4.out.1, by show _ = _; rw [repP_zero, List.append_nil]; exact HLL.out, HO4.out.2, rfl⟩
          · have h3I : ¬ (3 : Int) ≤ (gk : Int) := by omega
            have hLL := hL.out
            rw [repP_one h0 (by omega)] at hLL
            have HLL := Lib.hid hLL
            clear hLL hL
            have hoA := ho.out.alloc (.cells #[.int .i64 0, .int .i64 0, .int .i64 0] 115)
            have hbA := hb.out.alloc hb.out.size (.cells #[.int .i64 0, .int .i64 0, .int .i64 0] 115)
            have HOA := Lib.hid (⟨hoA, hbA⟩ : _ ∧ _)
            clear hoA hbA
            go_wp2_with (at_builtin; (refine wpList_appR w.heap.size i0 rfl (.tmp 10) (.tmp 13) rfl HI.out.1 HI.out.2.1 HI.out.2.2.1 HI.out.2.2.2 rfl HOA.out.1 rfl (RdR.lit wr 0 0 0 115) (by omega) HOA.out.2.size ?_)
                         intro A4 d4 w4 hown4 hg4 hat4
                         have HO4 := Lib.hid (⟨hown4, HOA.out.2.grown hg4 HOA.out.2.size fun q hq => (ho.out.2.lt hq).1⟩ : _ ∧ _)
                         clear hown4 hg4 hat4)
            go_roundg (gk - 1)
            case measure => omega
            case rel => exact ⟨gk - 1, m + 1, d4, A4, _, by go_num, rfl, by omega, by omega, HO4.out.1, by show _ = _; rw [List.append_assoc]; exact HLL.out, HO4.out.2, rfl⟩
      · have hkp : 0 < k := by omega
        have hk0' : (k == 0) = false := by simpa using hk0
        by_cases h3 : 3 ≤ gk
        · have h3I : (3 : Int) ≤ (gk : Int) := by omega
          have hLL := hL.out
          rw [repP_again hkp h3] at hLL
          have HLL : Hid (∀ (q : Nat) (x : Int), min gk 6 = q → x = ((q : Nat) : Int) - 3 → (L ++ [⟨16, x, 2⟩]) ++ repP k (gk - q) = repP k n0) := fun q x hq hx => by rw [hx, ← hq, List.append_assoc]; exact hLL
          clear hLL hL
          have hcs : (gk < 6 ∧ (gk : Int) < 6) ∨ (6 < gk ∧ (6 : Int) < (gk : Int)) ∨ gk = 6 := by omega
          rcases hcs with ⟨h, hI⟩ | ⟨h, hI⟩ | rfl
          · have hoA := ho.out.alloc (.cells #[.int .i64 16, .int .i64 ((gk : Int) - 3), .int .i64 2] 115)
            have hbA := hb.out.alloc hb.out.size (.cells #[.int .i64 16, .int .i64 ((gk : Int) - 3), .int .i64 2] 115)
            have HOA := Lib.hid (⟨hoA, hbA⟩ : _ ∧ _)
            clear hoA hbA
            go_wp2_with (at_builtin; (refine wpList_appR w.heap.size i0 rfl (.tmp 57) (.tmp 61) rfl HI.out.1 HI.out.2.1 HI.out.2.2.1 HI.out.2.2.2 rfl HOA.out.1 rfl (RdR.lit wr 16 ((gk : Int) - 3) 2 115) (by omega) HOA.out.2.size ?_)
                         intro A4 d4 w4 hown4 hg4 hat4
                         have HO4 := Lib.hid (⟨hown4, HOA.out.2.grown hg4 HOA.out.2.size fun q hq => (ho.out.2.lt hq).1⟩ : _ ∧ _)
                         clear hown4 hg4 hat4)
            go_roundg (gk - gk)
            case measure => omega
            case rel => exact ⟨gk - gk, m + 1, d4, A4, _, by simp, rfl, by omega, by omega, HO4.out.1, HLL.out gk ((gk : Int) - 3) (by omega) (by omega), HO4.out.2, rfl⟩
          · have hoA := ho.out.alloc (.cells #[.int .i64 16, .int .i64 3, .int .i64 2] 115)
            have hbA := hb.out.alloc hb.out.size (.cells #[.int .i64 16, .int .i64 3, .int .i64 2] 115)
            have HOA := Lib.hid (⟨hoA, hbA⟩ : _ ∧ _)
            clear hoA hbA
            go_wp2_with (at_builtin; (refine wpList_appR w.heap.size i0 rfl (.tmp 57) (.tmp 61) rfl HI.out.1 HI.out.2.1 HI.out.2.2.1 HI.out.2.2.2 rfl HOA.out.1 rfl (RdR.lit wr 16 3 2 115) (by omega) HOA.out.2.size ?_)
                         intro A4 d4 w4 hown4 hg4 hat4
                         have HO4 := Lib.hid (⟨hown4, HOA.out.2.grown hg4 HOA.out.2.size fun q hq => (ho.out.2.lt hq).1⟩ : _ ∧ _)
                         clear hown4 hg4 hat4)
            go_roundg (gk - 6)
            case measure => omega
            case rel => exact ⟨gk - 6, m + 1, d4, A4, _, by go_num, rfl, by omega, by omega, HO4.out.1, HLL.out 6 3 (by omega) (by omega), HO4.out.2, rfl⟩
          · have hoA := ho.out.alloc (.cells #[.int .i64 16, .int .i64 3, .int .i64 2] 115)
            have hbA := hb.out.alloc hb.out.size (.cells #[.int .i64 16, .int .i64 3, .int .i64 2] 115)
            have HOA := Lib.hid (⟨hoA, hbA⟩ : _ ∧ _)
            clear hoA hbA
            go_wp2_with (at_builtin; (refine wpList_appR w.heap.size i0 rfl (.tmp 57) (.tmp 61) rfl HI.out.1 HI.out.2.1 HI.out.2.2.1 HI.out.2.2.2 rfl HOA.out.1 rfl (RdR.lit wr 16 3 2 115) (by omega) HOA.out.2.size ?_)
                         intro A4 d4 w4 hown4 hg4 hat4
                         have HO4 := Lib.hid (⟨hown4, HOA.out.2.grown hg4 HOA.out.2.size fun q hq => (ho.out.2.lt hq).1⟩ : _ ∧ _)
                         clear hown4 hg4 hat4)
            go_roundg (0)
            case measure => omega
            case rel => exact ⟨0, m + 1, d4, A4, _, rfl, rfl, by omega, by omega, HO4.out.1, HLL.out 6 3 (by omega) (by omega), HO4.out.2, rfl⟩
        · have h3I : ¬ (3 : Int) ≤ (gk : Int) := by omega
          have hLL := hL.out
          rw [repP_one h0 (by omega)] at hLL
          have HLL := Lib.hid hLL
          clear hLL hL
          have hoA := ho.out.alloc (.cells #[.int .i64 k, .int .i64 0, .int .i64 0] 115)
          have hbA := hb.out.alloc hb.out.size (.cells #[.int .i64 k, .int .i64 0, .int .i64 0] 115)
          have HOA := Lib.hid (⟨hoA, hbA⟩ : _ ∧ _)
          clear hoA hbA
          go_wp2_with (at_builtin; (refine wpList_appR w.heap.size i0 rfl (.tmp 10) (.tmp 13) rfl HI.out.1 HI.out.2.1 HI.out.2.2.1 HI.out.2.2.2 rfl HOA.out.1 rfl (RdR.lit wr k 0 0 115) (by omega) HOA.out.2.size ?_)
                       intro A4 d4 w4 hown4 hg4 hat4
                       have HO4 := Lib.hid (⟨hown4, HOA.out.2.grown hg4 HOA.out.2.size fun q hq => (ho.out.2.lt hq).1⟩ : _ ∧ _)
                       clear hown4 hg4 hat4)
          go_roundg (gk - 1)
          case measure => omega
          case rel => exact ⟨gk - 1, m + 1, d4, A4, _, by go_num, rfl, by omega, by omega, HO4.out.1, by show _ = _; rw [List.append_assoc]; exact HLL.out, HO4.out.2, rfl⟩
end Go.Proofs.Ytlgkiookobedcaa
