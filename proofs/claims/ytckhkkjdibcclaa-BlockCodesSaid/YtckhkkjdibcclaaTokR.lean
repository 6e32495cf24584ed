/-
  The walks of the reference's Lens, Dists. (written by gentokr.py)
-/
import Derived.Test.YtckhkkjdibcclaaProg
import Derived.Test.YtckhkkjdibcclaaPk1
namespace Go.Proofs.Ytckhkkjdibcclaa
open Go.RowKit
set_option linter.unusedVariables false

def lensV (x : Int) : Value := if 257 ≤ x ∧ x ≤ 285 then .tuple #[.int .i64 ((lB (x - 257).toNat : Nat) : Int), .int .i64 ((lE (x - 257).toNat : Nat) : Int), .bool true] else .tuple #[.int .i64 0, .int .i64 0, .bool false]
def lensRel (x : Int) (w : World) (b i : Value) (wr : World) : Prop := ∃ j : Nat, j ≤ 28 ∧ i = .int .i64 (257 + (j : Int)) ∧ b = .int .i64 ((lR j : Nat) : Int) ∧ wr = w ∧ Hid (x < 257 ∨ 257 + (j : Int) ≤ x)
set_option maxHeartbeats 16000000 in
theorem lens_any (x : Int) (w : World) : Calls Try.prog 26 #[.int .i64 x] w fun e w' => e = .returned (lensV x) ∧ w = w' := by
  have hnone : x < 257 ∨ 285 < x → lensV x = .tuple #[.int .i64 0, .int .i64 0, .bool false] := fun h => by unfold lensV; rw [if_neg (by omega)]
  have HN := Lib.hid hnone
  clear hnone
  go_enter Try.func26, Try.ntmps26
  go_wp2
  go_loopw [5, 6] (lensRel x w) (fun _ i _ => 28 - (intOf i - 257).toNat)
  case atStart => exact ⟨0, by omega, rfl, rfl, rfl, by show _ ∨ _; omega⟩
  case round =>
    obtain ⟨j, hj, rfl, rfl, rfl, HX⟩ := hrel
    have h : j = 0 ∨ j = 1 ∨ j = 2 ∨ j = 3 ∨ j = 4 ∨ j = 5 ∨ j = 6 ∨ j = 7 ∨ j = 8 ∨ j = 9 ∨ j = 10 ∨ j = 11 ∨ j = 12 ∨ j = 13 ∨ j = 14 ∨ j = 15 ∨ j = 16 ∨ j = 17 ∨ j = 18 ∨ j = 19 ∨ j = 20 ∨ j = 21 ∨ j = 22 ∨ j = 23 ∨ j = 24 ∨ j = 25 ∨ j = 26 ∨ j = 27 ∨ j = 28 := by omega
    clear hj
    rcases h with rfl | rfl | rfl | rfl | rfl | rfl | rfl | rfl | rfl | rfl | rfl | rfl | rfl | rfl | rfl | rfl | rfl | rfl | rfl | rfl | rfl | rfl | rfl | rfl | rfl | rfl | rfl | rfl | rfl
    · rw [show ((lR 0 : Nat) : Int) = 3 from rfl, show (257 : Int) + ((0 : Nat) : Int) = 257 from rfl]
      by_cases hx : x = 257
      · subst hx
        go_wp2
        go_ret3
        exact ⟨rfl, rfl⟩
      · have hx1 : ¬ (257 : Int) = x := fun h => hx h.symm
        have hx2 : ((257 : Int) == x) = false := by simpa using hx1
        go_wp2
        go_roundw
        case rel => exact ⟨1, by omega, rfl, rfl, rfl, by have := HX.out; show _ ∨ _; omega⟩
        case measure => decide
    · rw [show ((lR 1 : Nat) : Int) = 4 from rfl, show (257 : Int) + ((1 : Nat) : Int) = 258 from rfl]
      by_cases hx : x = 258
      · subst hx
        go_wp2
        go_ret3
        exact ⟨rfl, rfl⟩
      · have hx1 : ¬ (258 : Int) = x := fun h => hx h.symm
        have hx2 : ((258 : Int) == x) = false := by simpa using hx1
        go_wp2
        go_roundw
        case rel => exact ⟨2, by omega, rfl, rfl, rfl, by have := HX.out; show _ ∨ _; omega⟩
        case measure => decide
    · rw [show ((lR 2 : Nat) : Int) = 5 from rfl, show (257 : Int) + ((2 : Nat) : Int) = 259 from rfl]
      by_cases hx : x = 259
      · subst hx
        go_wp2
        go_ret3
        exact ⟨rfl, rfl⟩
      · have hx1 : ¬ (259 : Int) = x := fun h => hx h.symm
        have hx2 : ((259 : Int) == x) = false := by simpa using hx1
        go_wp2
        go_roundw
        case rel => exact ⟨3, by omega, rfl, rfl, rfl, by have := HX.out; show _ ∨ _; omega⟩
        case measure => decide
    · rw [show ((lR 3 : Nat) : Int) = 6 from rfl, show (257 : Int) + ((3 : Nat) : Int) = 260 from rfl]
      by_cases hx : x = 260
      · subst hx
        go_wp2
        go_ret3
        exact ⟨rfl, rfl⟩
      · have hx1 : ¬ (260 : Int) = x := fun h => hx h.symm
        have hx2 : ((260 : Int) == x) = false := by simpa using hx1
        go_wp2
        go_roundw
        case rel => exact ⟨4, by omega, rfl, rfl, rfl, by have := HX.out; show _ ∨ _; omega⟩
        case measure => decide
    · rw [show ((lR 4 : Nat) : Int) = 7 from rfl, show (257 : Int) + ((4 : Nat) : Int) = 261 from rfl]
      by_cases hx : x = 261
      · subst hx
        go_wp2
        go_ret3
        exact ⟨rfl, rfl⟩
      · have hx1 : ¬ (261 : Int) = x := fun h => hx h.symm
        have hx2 : ((261 : Int) == x) = false := by simpa using hx1
        go_wp2
        go_roundw
        case rel => exact ⟨5, by omega, rfl, rfl, rfl, by have := HX.out; show _ ∨ _; omega⟩
        case measure => decide
    · rw [show ((lR 5 : Nat) : Int) = 8 from rfl, show (257 : Int) + ((5 : Nat) : Int) = 262 from rfl]
      by_cases hx : x = 262
      · subst hx
        go_wp2
        go_ret3
        exact ⟨rfl, rfl⟩
      · have hx1 : ¬ (262 : Int) = x := fun h => hx h.symm
        have hx2 : ((262 : Int) == x) = false := by simpa using hx1
        go_wp2
        go_roundw
        case rel => exact ⟨6, by omega, rfl, rfl, rfl, by have := HX.out; show _ ∨ _; omega⟩
        case measure => decide
    · rw [show ((lR 6 : Nat) : Int) = 9 from rfl, show (257 : Int) + ((6 : Nat) : Int) = 263 from rfl]
      by_cases hx : x = 263
      · subst hx
        go_wp2
        go_ret3
        exact ⟨rfl, rfl⟩
      · have hx1 : ¬ (263 : Int) = x := fun h => hx h.symm
        have hx2 : ((263 : Int) == x) = false := by simpa using hx1
        go_wp2
        go_roundw
        case rel => exact ⟨7, by omega, rfl, rfl, rfl, by have := HX.out; show _ ∨ _; omega⟩
        case measure => decide
    · rw [show ((lR 7 : Nat) : Int) = 10 from rfl, show (257 : Int) + ((7 : Nat) : Int) = 264 from rfl]
      by_cases hx : x = 264
      · subst hx
        go_wp2
        go_ret3
        exact ⟨rfl, rfl⟩
      · have hx1 : ¬ (264 : Int) = x := fun h => hx h.symm
        have hx2 : ((264 : Int) == x) = false := by simpa using hx1
        go_wp2
        go_roundw
        case rel => exact ⟨8, by omega, rfl, rfl, rfl, by have := HX.out; show _ ∨ _; omega⟩
        case measure => decide
    · rw [show ((lR 8 : Nat) : Int) = 11 from rfl, show (257 : Int) + ((8 : Nat) : Int) = 265 from rfl]
      by_cases hx : x = 265
      · subst hx
        go_wp2
        go_ret3
        exact ⟨rfl, rfl⟩
      · have hx1 : ¬ (265 : Int) = x := fun h => hx h.symm
        have hx2 : ((265 : Int) == x) = false := by simpa using hx1
        go_wp2
        go_roundw
        case rel => exact ⟨9, by omega, rfl, rfl, rfl, by have := HX.out; show _ ∨ _; omega⟩
        case measure => decide
    · rw [show ((lR 9 : Nat) : Int) = 13 from rfl, show (257 : Int) + ((9 : Nat) : Int) = 266 from rfl]
      by_cases hx : x = 266
      · subst hx
        go_wp2
        go_ret3
        exact ⟨rfl, rfl⟩
      · have hx1 : ¬ (266 : Int) = x := fun h => hx h.symm
        have hx2 : ((266 : Int) == x) = false := by simpa using hx1
        go_wp2
        go_roundw
        case rel => exact ⟨10, by omega, rfl, rfl, rfl, by have := HX.out; show _ ∨ _; omega⟩
        case measure => decide
    · rw [show ((lR 10 : Nat) : Int) = 15 from rfl, show (257 : Int) + ((10 : Nat) : Int) = 267 from rfl]
      by_cases hx : x = 267
      · subst hx
        go_wp2
        go_ret3
        exact ⟨rfl, rfl⟩
      · have hx1 : ¬ (267 : Int) = x := fun h => hx h.symm
        have hx2 : ((267 : Int) == x) = false := by simpa using hx1
        go_wp2
        go_roundw
        case rel => exact ⟨11, by omega, rfl, rfl, rfl, by have := HX.out; show _ ∨ _; omega⟩
        case measure => decide
    · rw [show ((lR 11 : Nat) : Int) = 17 from rfl, show (257 : Int) + ((11 : Nat) : Int) = 268 from rfl]
      by_cases hx : x = 268
      · subst hx
        go_wp2
        go_ret3
        exact ⟨rfl, rfl⟩
      · have hx1 : ¬ (268 : Int) = x := fun h => hx h.symm
        have hx2 : ((268 : Int) == x) = false := by simpa using hx1
        go_wp2
        go_roundw
        case rel => exact ⟨12, by omega, rfl, rfl, rfl, by have := HX.out; show _ ∨ _; omega⟩
        case measure => decide
    · rw [show ((lR 12 : Nat) : Int) = 19 from rfl, show (257 : Int) + ((12 : Nat) : Int) = 269 from rfl]
      by_cases hx : x = 269
      · subst hx
        go_wp2
        go_ret3
        exact ⟨rfl, rfl⟩
      · have hx1 : ¬ (269 : Int) = x := fun h => hx h.symm
        have hx2 : ((269 : Int) == x) = false := by simpa using hx1
        go_wp2
        go_roundw
        case rel => exact ⟨13, by omega, rfl, rfl, rfl, by have := HX.out; show _ ∨ _; omega⟩
        case measure => decide
    · rw [show ((lR 13 : Nat) : Int) = 23 from rfl, show (257 : Int) + ((13 : Nat) : Int) = 270 from rfl]
      by_cases hx : x = 270
      · subst hx
        go_wp2
        go_ret3
        exact ⟨rfl, rfl⟩
      · have hx1 : ¬ (270 : Int) = x := fun h => hx h.symm
        have hx2 : ((270 : Int) == x) = false := by simpa using hx1
        go_wp2
        go_roundw
        case rel => exact ⟨14, by omega, rfl, rfl, rfl, by have := HX.out; show _ ∨ _; omega⟩
        case measure => decide
    · rw [show ((lR 14 : Nat) : Int) = 27 from rfl, show (257 : Int) + ((14 : Nat) : Int) = 271 from rfl]
      by_cases hx : x = 271
      · subst hx
        go_wp2
        go_ret3
        exact ⟨rfl, rfl⟩
      · have hx1 : ¬ (271 : Int) = x := fun h => hx h.symm
        have hx2 : ((271 : Int) == x) = false := by simpa using hx1
        go_wp2
        go_roundw
        case rel => exact ⟨15, by omega, rfl, rfl, rfl, by have := HX.out; show _ ∨ _; omega⟩
        case measure => decide
    · rw [show ((lR 15 : Nat) : Int) = 31 from rfl, show (257 : Int) + ((15 : Nat) : Int) = 272 from rfl]
      by_cases hx : x = 272
      · subst hx
        go_wp2
        go_ret3
        exact ⟨rfl, rfl⟩
      · have hx1 : ¬ (272 : Int) = x := fun h => hx h.symm
        have hx2 : ((272 : Int) == x) = false := by simpa using hx1
        go_wp2
        go_roundw
        case rel => exact ⟨16, by omega, rfl, rfl, rfl, by have := HX.out; show _ ∨ _; omega⟩
        case measure => decide
    · rw [show ((lR 16 : Nat) : Int) = 35 from rfl, show (257 : Int) + ((16 : Nat) : Int) = 273 from rfl]
      by_cases hx : x = 273
      · subst hx
        go_wp2
        go_ret3
        exact ⟨rfl, rfl⟩
      · have hx1 : ¬ (273 : Int) = x := fun h => hx h.symm
        have hx2 : ((273 : Int) == x) = false := by simpa using hx1
        go_wp2
        go_roundw
        case rel => exact ⟨17, by omega, rfl, rfl, rfl, by have := HX.out; show _ ∨ _; omega⟩
        case measure => decide
    · rw [show ((lR 17 : Nat) : Int) = 43 from rfl, show (257 : Int) + ((17 : Nat) : Int) = 274 from rfl]
      by_cases hx : x = 274
      · subst hx
        go_wp2
        go_ret3
        exact ⟨rfl, rfl⟩
      · have hx1 : ¬ (274 : Int) = x := fun h => hx h.symm
        have hx2 : ((274 : Int) == x) = false := by simpa using hx1
        go_wp2
        go_roundw
        case rel => exact ⟨18, by omega, rfl, rfl, rfl, by have := HX.out; show _ ∨ _; omega⟩
        case measure => decide
    · rw [show ((lR 18 : Nat) : Int) = 51 from rfl, show (257 : Int) + ((18 : Nat) : Int) = 275 from rfl]
      by_cases hx : x = 275
      · subst hx
        go_wp2
        go_ret3
        exact ⟨rfl, rfl⟩
      · have hx1 : ¬ (275 : Int) = x := fun h => hx h.symm
        have hx2 : ((275 : Int) == x) = false := by simpa using hx1
        go_wp2
        go_roundw
        case rel => exact ⟨19, by omega, rfl, rfl, rfl, by have := HX.out; show _ ∨ _; omega⟩
        case measure => decide
    · rw [show ((lR 19 : Nat) : Int) = 59 from rfl, show (257 : Int) + ((19 : Nat) : Int) = 276 from rfl]
      by_cases hx : x = 276
      · subst hx
        go_wp2
        go_ret3
        exact ⟨rfl, rfl⟩
      · have hx1 : ¬ (276 : Int) = x := fun h => hx h.symm
        have hx2 : ((276 : Int) == x) = false := by simpa using hx1
        go_wp2
        go_roundw
        case rel => exact ⟨20, by omega, rfl, rfl, rfl, by have := HX.out; show _ ∨ _; omega⟩
        case measure => decide
    · rw [show ((lR 20 : Nat) : Int) = 67 from rfl, show (257 : Int) + ((20 : Nat) : Int) = 277 from rfl]
      by_cases hx : x = 277
      · subst hx
        go_wp2
        go_ret3
        exact ⟨rfl, rfl⟩
      · have hx1 : ¬ (277 : Int) = x := fun h => hx h.symm
        have hx2 : ((277 : Int) == x) = false := by simpa using hx1
        go_wp2
        go_roundw
        case rel => exact ⟨21, by omega, rfl, rfl, rfl, by have := HX.out; show _ ∨ _; omega⟩
        case measure => decide
    · rw [show ((lR 21 : Nat) : Int) = 83 from rfl, show (257 : Int) + ((21 : Nat) : Int) = 278 from rfl]
      by_cases hx : x = 278
      · subst hx
        go_wp2
        go_ret3
        exact ⟨rfl, rfl⟩
      · have hx1 : ¬ (278 : Int) = x := fun h => hx h.symm
        have hx2 : ((278 : Int) == x) = false := by simpa using hx1
        go_wp2
        go_roundw
        case rel => exact ⟨22, by omega, rfl, rfl, rfl, by have := HX.out; show _ ∨ _; omega⟩
        case measure => decide
    · rw [show ((lR 22 : Nat) : Int) = 99 from rfl, show (257 : Int) + ((22 : Nat) : Int) = 279 from rfl]
      by_cases hx : x = 279
      · subst hx
        go_wp2
        go_ret3
        exact ⟨rfl, rfl⟩
      · have hx1 : ¬ (279 : Int) = x := fun h => hx h.symm
        have hx2 : ((279 : Int) == x) = false := by simpa using hx1
        go_wp2
        go_roundw
        case rel => exact ⟨23, by omega, rfl, rfl, rfl, by have := HX.out; show _ ∨ _; omega⟩
        case measure => decide
    · rw [show ((lR 23 : Nat) : Int) = 115 from rfl, show (257 : Int) + ((23 : Nat) : Int) = 280 from rfl]
      by_cases hx : x = 280
      · subst hx
        go_wp2
        go_ret3
        exact ⟨rfl, rfl⟩
      · have hx1 : ¬ (280 : Int) = x := fun h => hx h.symm
        have hx2 : ((280 : Int) == x) = false := by simpa using hx1
        go_wp2
        go_roundw
        case rel => exact ⟨24, by omega, rfl, rfl, rfl, by have := HX.out; show _ ∨ _; omega⟩
        case measure => decide
    · rw [show ((lR 24 : Nat) : Int) = 131 from rfl, show (257 : Int) + ((24 : Nat) : Int) = 281 from rfl]
      by_cases hx : x = 281
      · subst hx
        go_wp2
        go_ret3
        exact ⟨rfl, rfl⟩
      · have hx1 : ¬ (281 : Int) = x := fun h => hx h.symm
        have hx2 : ((281 : Int) == x) = false := by simpa using hx1
        go_wp2
        go_roundw
        case rel => exact ⟨25, by omega, rfl, rfl, rfl, by have := HX.out; show _ ∨ _; omega⟩
        case measure => decide
    · rw [show ((lR 25 : Nat) : Int) = 163 from rfl, show (257 : Int) + ((25 : Nat) : Int) = 282 from rfl]
      by_cases hx : x = 282
      · subst hx
        go_wp2
        go_ret3
        exact ⟨rfl, rfl⟩
      · have hx1 : ¬ (282 : Int) = x := fun h => hx h.symm
        have hx2 : ((282 : Int) == x) = false := by simpa using hx1
        go_wp2
        go_roundw
        case rel => exact ⟨26, by omega, rfl, rfl, rfl, by have := HX.out; show _ ∨ _; omega⟩
        case measure => decide
    · rw [show ((lR 26 : Nat) : Int) = 195 from rfl, show (257 : Int) + ((26 : Nat) : Int) = 283 from rfl]
      by_cases hx : x = 283
      · subst hx
        go_wp2
        go_ret3
        exact ⟨rfl, rfl⟩
      · have hx1 : ¬ (283 : Int) = x := fun h => hx h.symm
        have hx2 : ((283 : Int) == x) = false := by simpa using hx1
        go_wp2
        go_roundw
        case rel => exact ⟨27, by omega, rfl, rfl, rfl, by have := HX.out; show _ ∨ _; omega⟩
        case measure => decide
    · rw [show ((lR 27 : Nat) : Int) = 227 from rfl, show (257 : Int) + ((27 : Nat) : Int) = 284 from rfl]
      by_cases hx : x = 284
      · subst hx
        go_wp2
        go_ret3
        exact ⟨rfl, rfl⟩
      · have hx1 : ¬ (284 : Int) = x := fun h => hx h.symm
        have hx2 : ((284 : Int) == x) = false := by simpa using hx1
        go_wp2
        go_roundw
        case rel => exact ⟨28, by omega, rfl, rfl, rfl, by have := HX.out; show _ ∨ _; omega⟩
        case measure => decide
    · rw [show ((lR 28 : Nat) : Int) = 259 from rfl, show (257 : Int) + ((28 : Nat) : Int) = 285 from rfl]
      by_cases hx : x = 285
      · subst hx
        go_wp2
        go_ret3
        exact ⟨rfl, rfl⟩
      · have hx1 : (x == 285) = false := by simpa using hx
        go_wp2
        go_ret3
        rw [HN.out (by have := HX.out; omega)]
        exact ⟨rfl, rfl⟩

def distsV (x : Int) : Value := if 0 ≤ x ∧ x ≤ 29 then .tuple #[.int .i64 ((dB (x - 0).toNat : Nat) : Int), .int .i64 ((dE (x - 0).toNat : Nat) : Int), .bool true] else .tuple #[.int .i64 0, .int .i64 0, .bool false]
def distsRel (x : Int) (w : World) (b i : Value) (wr : World) : Prop := ∃ j : Nat, j ≤ 30 ∧ i = .int .i64 (0 + (j : Int)) ∧ b = .int .i64 ((dB j : Nat) : Int) ∧ wr = w ∧ Hid (x < 0 ∨ 0 + (j : Int) ≤ x)
set_option maxHeartbeats 16000000 in
theorem dists_any (x : Int) (w : World) : Calls Try.prog 27 #[.int .i64 x] w fun e w' => e = .returned (distsV x) ∧ w = w' := by
  have hnone : x < 0 ∨ 29 < x → distsV x = .tuple #[.int .i64 0, .int .i64 0, .bool false] := fun h => by unfold distsV; rw [if_neg (by omega)]
  have HN := Lib.hid hnone
  clear hnone
  go_enter Try.func27, Try.ntmps27
  go_wp2
  go_loopw [5, 6] (distsRel x w) (fun _ i _ => 30 - (intOf i - 0).toNat)
  case atStart => exact ⟨0, by omega, rfl, rfl, rfl, by show _ ∨ _; omega⟩
  case round =>
    obtain ⟨j, hj, rfl, rfl, rfl, HX⟩ := hrel
    have h : j = 0 ∨ j = 1 ∨ j = 2 ∨ j = 3 ∨ j = 4 ∨ j = 5 ∨ j = 6 ∨ j = 7 ∨ j = 8 ∨ j = 9 ∨ j = 10 ∨ j = 11 ∨ j = 12 ∨ j = 13 ∨ j = 14 ∨ j = 15 ∨ j = 16 ∨ j = 17 ∨ j = 18 ∨ j = 19 ∨ j = 20 ∨ j = 21 ∨ j = 22 ∨ j = 23 ∨ j = 24 ∨ j = 25 ∨ j = 26 ∨ j = 27 ∨ j = 28 ∨ j = 29 ∨ j = 30 := by omega
    clear hj
    rcases h with rfl | rfl | rfl | rfl | rfl | rfl | rfl | rfl | rfl | rfl | rfl | rfl | rfl | rfl | rfl | rfl | rfl | rfl | rfl | rfl | rfl | rfl | rfl | rfl | rfl | rfl | rfl | rfl | rfl | rfl | rfl
    · rw [show ((dB 0 : Nat) : Int) = 1 from rfl, show (0 : Int) + ((0 : Nat) : Int) = 0 from rfl]
      by_cases hx : x = 0
      · subst hx
        go_wp2
        go_ret3
        exact ⟨rfl, rfl⟩
      · have hx1 : ¬ (0 : Int) = x := fun h => hx h.symm
        have hx2 : ((0 : Int) == x) = false := by simpa using hx1
        go_wp2
        go_roundw
        case rel => exact ⟨1, by omega, rfl, rfl, rfl, by have := HX.out; show _ ∨ _; omega⟩
        case measure => decide
    · rw [show ((dB 1 : Nat) : Int) = 2 from rfl, show (0 : Int) + ((1 : Nat) : Int) = 1 from rfl]
      by_cases hx : x = 1
      · subst hx
        go_wp2
        go_ret3
        exact ⟨rfl, rfl⟩
      · have hx1 : ¬ (1 : Int) = x := fun h => hx h.symm
        have hx2 : ((1 : Int) == x) = false := by simpa using hx1
        go_wp2
        go_roundw
        case rel => exact ⟨2, by omega, rfl, rfl, rfl, by have := HX.out; show _ ∨ _; omega⟩
        case measure => decide
    · rw [show ((dB 2 : Nat) : Int) = 3 from rfl, show (0 : Int) + ((2 : Nat) : Int) = 2 from rfl]
      by_cases hx : x = 2
      · subst hx
        go_wp2
        go_ret3
        exact ⟨rfl, rfl⟩
      · have hx1 : ¬ (2 : Int) = x := fun h => hx h.symm
        have hx2 : ((2 : Int) == x) = false := by simpa using hx1
        go_wp2
        go_roundw
        case rel => exact ⟨3, by omega, rfl, rfl, rfl, by have := HX.out; show _ ∨ _; omega⟩
        case measure => decide
    · rw [show ((dB 3 : Nat) : Int) = 4 from rfl, show (0 : Int) + ((3 : Nat) : Int) = 3 from rfl]
      by_cases hx : x = 3
      · subst hx
        go_wp2
        go_ret3
        exact ⟨rfl, rfl⟩
      · have hx1 : ¬ (3 : Int) = x := fun h => hx h.symm
        have hx2 : ((3 : Int) == x) = false := by simpa using hx1
        go_wp2
        go_roundw
        case rel => exact ⟨4, by omega, rfl, rfl, rfl, by have := HX.out; show _ ∨ _; omega⟩
        case measure => decide
    · rw [show ((dB 4 : Nat) : Int) = 5 from rfl, show (0 : Int) + ((4 : Nat) : Int) = 4 from rfl]
      by_cases hx : x = 4
      · subst hx
        go_wp2
        go_ret3
        exact ⟨rfl, rfl⟩
      · have hx1 : ¬ (4 : Int) = x := fun h => hx h.symm
        have hx2 : ((4 : Int) == x) = false := by simpa using hx1
        go_wp2
        go_roundw
        case rel => exact ⟨5, by omega, rfl, rfl, rfl, by have := HX.out; show _ ∨ _; omega⟩
        case measure => decide
    · rw [show ((dB 5 : Nat) : Int) = 7 from rfl, show (0 : Int) + ((5 : Nat) : Int) = 5 from rfl]
      by_cases hx : x = 5
      · subst hx
        go_wp2
        go_ret3
        exact ⟨rfl, rfl⟩
      · have hx1 : ¬ (5 : Int) = x := fun h => hx h.symm
        have hx2 : ((5 : Int) == x) = false := by simpa using hx1
        go_wp2
        go_roundw
        case rel => exact ⟨6, by omega, rfl, rfl, rfl, by have := HX.out; show _ ∨ _; omega⟩
        case measure => decide
    · rw [show ((dB 6 : Nat) : Int) = 9 from rfl, show (0 : Int) + ((6 : Nat) : Int) = 6 from rfl]
      by_cases hx : x = 6
      · subst hx
        go_wp2
        go_ret3
        exact ⟨rfl, rfl⟩
      · have hx1 : ¬ (6 : Int) = x := fun h => hx h.symm
        have hx2 : ((6 : Int) == x) = false := by simpa using hx1
        go_wp2
        go_roundw
        case rel => exact ⟨7, by omega, rfl, rfl, rfl, by have := HX.out; show _ ∨ _; omega⟩
        case measure => decide
    · rw [show ((dB 7 : Nat) : Int) = 13 from rfl, show (0 : Int) + ((7 : Nat) : Int) = 7 from rfl]
      by_cases hx : x = 7
      · subst hx
        go_wp2
        go_ret3
        exact ⟨rfl, rfl⟩
      · have hx1 : ¬ (7 : Int) = x := fun h => hx h.symm
        have hx2 : ((7 : Int) == x) = false := by simpa using hx1
        go_wp2
        go_roundw
        case rel => exact ⟨8, by omega, rfl, rfl, rfl, by have := HX.out; show _ ∨ _; omega⟩
        case measure => decide
    · rw [show ((dB 8 : Nat) : Int) = 17 from rfl, show (0 : Int) + ((8 : Nat) : Int) = 8 from rfl]
      by_cases hx : x = 8
      · subst hx
        go_wp2
        go_ret3
        exact ⟨rfl, rfl⟩
      · have hx1 : ¬ (8 : Int) = x := fun h => hx h.symm
        have hx2 : ((8 : Int) == x) = false := by simpa using hx1
        go_wp2
        go_roundw
        case rel => exact ⟨9, by omega, rfl, rfl, rfl, by have := HX.out; show _ ∨ _; omega⟩
        case measure => decide
    · rw [show ((dB 9 : Nat) : Int) = 25 from rfl, show (0 : Int) + ((9 : Nat) : Int) = 9 from rfl]
      by_cases hx : x = 9
      · subst hx
        go_wp2
        go_ret3
        exact ⟨rfl, rfl⟩
      · have hx1 : ¬ (9 : Int) = x := fun h => hx h.symm
        have hx2 : ((9 : Int) == x) = false := by simpa using hx1
        go_wp2
        go_roundw
        case rel => exact ⟨10, by omega, rfl, rfl, rfl, by have := HX.out; show _ ∨ _; omega⟩
        case measure => decide
    · rw [show ((dB 10 : Nat) : Int) = 33 from rfl, show (0 : Int) + ((10 : Nat) : Int) = 10 from rfl]
      by_cases hx : x = 10
      · subst hx
        go_wp2
        go_ret3
        exact ⟨rfl, rfl⟩
      · have hx1 : ¬ (10 : Int) = x := fun h => hx h.symm
        have hx2 : ((10 : Int) == x) = false := by simpa using hx1
        go_wp2
        go_roundw
        case rel => exact ⟨11, by omega, rfl, rfl, rfl, by have := HX.out; show _ ∨ _; omega⟩
        case measure => decide
    · rw [show ((dB 11 : Nat) : Int) = 49 from rfl, show (0 : Int) + ((11 : Nat) : Int) = 11 from rfl]
      by_cases hx : x = 11
      · subst hx
        go_wp2
        go_ret3
        exact ⟨rfl, rfl⟩
      · have hx1 : ¬ (11 : Int) = x := fun h => hx h.symm
        have hx2 : ((11 : Int) == x) = false := by simpa using hx1
        go_wp2
        go_roundw
        case rel => exact ⟨12, by omega, rfl, rfl, rfl, by have := HX.out; show _ ∨ _; omega⟩
        case measure => decide
    · rw [show ((dB 12 : Nat) : Int) = 65 from rfl, show (0 : Int) + ((12 : Nat) : Int) = 12 from rfl]
      by_cases hx : x = 12
      · subst hx
        go_wp2
        go_ret3
        exact ⟨rfl, rfl⟩
      · have hx1 : ¬ (12 : Int) = x := fun h => hx h.symm
        have hx2 : ((12 : Int) == x) = false := by simpa using hx1
        go_wp2
        go_roundw
        case rel => exact ⟨13, by omega, rfl, rfl, rfl, by have := HX.out; show _ ∨ _; omega⟩
        case measure => decide
    · rw [show ((dB 13 : Nat) : Int) = 97 from rfl, show (0 : Int) + ((13 : Nat) : Int) = 13 from rfl]
      by_cases hx : x = 13
      · subst hx
        go_wp2
        go_ret3
        exact ⟨rfl, rfl⟩
      · have hx1 : ¬ (13 : Int) = x := fun h => hx h.symm
        have hx2 : ((13 : Int) == x) = false := by simpa using hx1
        go_wp2
        go_roundw
        case rel => exact ⟨14, by omega, rfl, rfl, rfl, by have := HX.out; show _ ∨ _; omega⟩
        case measure => decide
    · rw [show ((dB 14 : Nat) : Int) = 129 from rfl, show (0 : Int) + ((14 : Nat) : Int) = 14 from rfl]
      by_cases hx : x = 14
      · subst hx
        go_wp2
        go_ret3
        exact ⟨rfl, rfl⟩
      · have hx1 : ¬ (14 : Int) = x := fun h => hx h.symm
        have hx2 : ((14 : Int) == x) = false := by simpa using hx1
        go_wp2
        go_roundw
        case rel => exact ⟨15, by omega, rfl, rfl, rfl, by have := HX.out; show _ ∨ _; omega⟩
        case measure => decide
    · rw [show ((dB 15 : Nat) : Int) = 193 from rfl, show (0 : Int) + ((15 : Nat) : Int) = 15 from rfl]
      by_cases hx : x = 15
      · subst hx
        go_wp2
        go_ret3
        exact ⟨rfl, rfl⟩
      · have hx1 : ¬ (15 : Int) = x := fun h => hx h.symm
        have hx2 : ((15 : Int) == x) = false := by simpa using hx1
        go_wp2
        go_roundw
        case rel => exact ⟨16, by omega, rfl, rfl, rfl, by have := HX.out; show _ ∨ _; omega⟩
        case measure => decide
    · rw [show ((dB 16 : Nat) : Int) = 257 from rfl, show (0 : Int) + ((16 : Nat) : Int) = 16 from rfl]
      by_cases hx : x = 16
      · subst hx
        go_wp2
        go_ret3
        exact ⟨rfl, rfl⟩
      · have hx1 : ¬ (16 : Int) = x := fun h => hx h.symm
        have hx2 : ((16 : Int) == x) = false := by simpa using hx1
        go_wp2
        go_roundw
        case rel => exact ⟨17, by omega, rfl, rfl, rfl, by have := HX.out; show _ ∨ _; omega⟩
        case measure => decide
    · rw [show ((dB 17 : Nat) : Int) = 385 from rfl, show (0 : Int) + ((17 : Nat) : Int) = 17 from rfl]
      by_cases hx : x = 17
      · subst hx
        go_wp2
        go_ret3
        exact ⟨rfl, rfl⟩
      · have hx1 : ¬ (17 : Int) = x := fun h => hx h.symm
        have hx2 : ((17 : Int) == x) = false := by simpa using hx1
        go_wp2
        go_roundw
        case rel => exact ⟨18, by omega, rfl, rfl, rfl, by have := HX.out; show _ ∨ _; omega⟩
        case measure => decide
    · rw [show ((dB 18 : Nat) : Int) = 513 from rfl, show (0 : Int) + ((18 : Nat) : Int) = 18 from rfl]
      by_cases hx : x = 18
      · subst hx
        go_wp2
        go_ret3
        exact ⟨rfl, rfl⟩
      · have hx1 : ¬ (18 : Int) = x := fun h => hx h.symm
        have hx2 : ((18 : Int) == x) = false := by simpa using hx1
        go_wp2
        go_roundw
        case rel => exact ⟨19, by omega, rfl, rfl, rfl, by have := HX.out; show _ ∨ _; omega⟩
        case measure => decide
    · rw [show ((dB 19 : Nat) : Int) = 769 from rfl, show (0 : Int) + ((19 : Nat) : Int) = 19 from rfl]
      by_cases hx : x = 19
      · subst hx
        go_wp2
        go_ret3
        exact ⟨rfl, rfl⟩
      · have hx1 : ¬ (19 : Int) = x := fun h => hx h.symm
        have hx2 : ((19 : Int) == x) = false := by simpa using hx1
        go_wp2
        go_roundw
        case rel => exact ⟨20, by omega, rfl, rfl, rfl, by have := HX.out; show _ ∨ _; omega⟩
        case measure => decide
    · rw [show ((dB 20 : Nat) : Int) = 1025 from rfl, show (0 : Int) + ((20 : Nat) : Int) = 20 from rfl]
      by_cases hx : x = 20
      · subst hx
        go_wp2
        go_ret3
        exact ⟨rfl, rfl⟩
      · have hx1 : ¬ (20 : Int) = x := fun h => hx h.symm
        have hx2 : ((20 : Int) == x) = false := by simpa using hx1
        go_wp2
        go_roundw
        case rel => exact ⟨21, by omega, rfl, rfl, rfl, by have := HX.out; show _ ∨ _; omega⟩
        case measure => decide
    · rw [show ((dB 21 : Nat) : Int) = 1537 from rfl, show (0 : Int) + ((21 : Nat) : Int) = 21 from rfl]
      by_cases hx : x = 21
      · subst hx
        go_wp2
        go_ret3
        exact ⟨rfl, rfl⟩
      · have hx1 : ¬ (21 : Int) = x := fun h => hx h.symm
        have hx2 : ((21 : Int) == x) = false := by simpa using hx1
        go_wp2
        go_roundw
        case rel => exact ⟨22, by omega, rfl, rfl, rfl, by have := HX.out; show _ ∨ _; omega⟩
        case measure => decide
    · rw [show ((dB 22 : Nat) : Int) = 2049 from rfl, show (0 : Int) + ((22 : Nat) : Int) = 22 from rfl]
      by_cases hx : x = 22
      · subst hx
        go_wp2
        go_ret3
        exact ⟨rfl, rfl⟩
      · have hx1 : ¬ (22 : Int) = x := fun h => hx h.symm
        have hx2 : ((22 : Int) == x) = false := by simpa using hx1
        go_wp2
        go_roundw
        case rel => exact ⟨23, by omega, rfl, rfl, rfl, by have := HX.out; show _ ∨ _; omega⟩
        case measure => decide
    · rw [show ((dB 23 : Nat) : Int) = 3073 from rfl, show (0 : Int) + ((23 : Nat) : Int) = 23 from rfl]
      by_cases hx : x = 23
      · subst hx
        go_wp2
        go_ret3
        exact ⟨rfl, rfl⟩
      · have hx1 : ¬ (23 : Int) = x := fun h => hx h.symm
        have hx2 : ((23 : Int) == x) = false := by simpa using hx1
        go_wp2
        go_roundw
        case rel => exact ⟨24, by omega, rfl, rfl, rfl, by have := HX.out; show _ ∨ _; omega⟩
        case measure => decide
    · rw [show ((dB 24 : Nat) : Int) = 4097 from rfl, show (0 : Int) + ((24 : Nat) : Int) = 24 from rfl]
      by_cases hx : x = 24
      · subst hx
        go_wp2
        go_ret3
        exact ⟨rfl, rfl⟩
      · have hx1 : ¬ (24 : Int) = x := fun h => hx h.symm
        have hx2 : ((24 : Int) == x) = false := by simpa using hx1
        go_wp2
        go_roundw
        case rel => exact ⟨25, by omega, rfl, rfl, rfl, by have := HX.out; show _ ∨ _; omega⟩
        case measure => decide
    · rw [show ((dB 25 : Nat) : Int) = 6145 from rfl, show (0 : Int) + ((25 : Nat) : Int) = 25 from rfl]
      by_cases hx : x = 25
      · subst hx
        go_wp2
        go_ret3
        exact ⟨rfl, rfl⟩
      · have hx1 : ¬ (25 : Int) = x := fun h => hx h.symm
        have hx2 : ((25 : Int) == x) = false := by simpa using hx1
        go_wp2
        go_roundw
        case rel => exact ⟨26, by omega, rfl, rfl, rfl, by have := HX.out; show _ ∨ _; omega⟩
        case measure => decide
    · rw [show ((dB 26 : Nat) : Int) = 8193 from rfl, show (0 : Int) + ((26 : Nat) : Int) = 26 from rfl]
      by_cases hx : x = 26
      · subst hx
        go_wp2
        go_ret3
        exact ⟨rfl, rfl⟩
      · have hx1 : ¬ (26 : Int) = x := fun h => hx h.symm
        have hx2 : ((26 : Int) == x) = false := by simpa using hx1
        go_wp2
        go_roundw
        case rel => exact ⟨27, by omega, rfl, rfl, rfl, by have := HX.out; show _ ∨ _; omega⟩
        case measure => decide
    · rw [show ((dB 27 : Nat) : Int) = 12289 from rfl, show (0 : Int) + ((27 : Nat) : Int) = 27 from rfl]
      by_cases hx : x = 27
      · subst hx
        go_wp2
        go_ret3
        exact ⟨rfl, rfl⟩
      · have hx1 : ¬ (27 : Int) = x := fun h => hx h.symm
        have hx2 : ((27 : Int) == x) = false := by simpa using hx1
        go_wp2
        go_roundw
        case rel => exact ⟨28, by omega, rfl, rfl, rfl, by have := HX.out; show _ ∨ _; omega⟩
        case measure => decide
    · rw [show ((dB 28 : Nat) : Int) = 16385 from rfl, show (0 : Int) + ((28 : Nat) : Int) = 28 from rfl]
      by_cases hx : x = 28
      · subst hx
        go_wp2
        go_ret3
        exact ⟨rfl, rfl⟩
      · have hx1 : ¬ (28 : Int) = x := fun h => hx h.symm
        have hx2 : ((28 : Int) == x) = false := by simpa using hx1
        go_wp2
        go_roundw
        case rel => exact ⟨29, by omega, rfl, rfl, rfl, by have := HX.out; show _ ∨ _; omega⟩
        case measure => decide
    · rw [show ((dB 29 : Nat) : Int) = 24577 from rfl, show (0 : Int) + ((29 : Nat) : Int) = 29 from rfl]
      by_cases hx : x = 29
      · subst hx
        go_wp2
        go_ret3
        exact ⟨rfl, rfl⟩
      · have hx1 : ¬ (29 : Int) = x := fun h => hx h.symm
        have hx2 : ((29 : Int) == x) = false := by simpa using hx1
        go_wp2
        go_roundw
        case rel => exact ⟨30, by omega, rfl, rfl, rfl, by have := HX.out; show _ ∨ _; omega⟩
        case measure => decide
    · rw [show ((dB 30 : Nat) : Int) = 32769 from rfl, show (0 : Int) + ((30 : Nat) : Int) = 30 from rfl]
      go_wp2
      go_ret3
      rw [HN.out (by have := HX.out; omega)]
      exact ⟨rfl, rfl⟩
end Go.Proofs.Ytckhkkjdibcclaa
