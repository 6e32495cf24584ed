/-
  Plain law: what bytes mean as a zlib file.
-/
import Derived.Test.YtjeedkjgjfbndaaAdl
import Derived.Test.YtjeedkjgjfbndaaPk
import Derived.Test.YtjeedkjgjfbndaaInfU
namespace Go.Proofs.Ytjeedkjgjfbndaa
open Go.RowKit
set_option linter.unusedVariables false
def adlF (s : Int) (l : List Int) : Int := adY (lowH s) (highH s) l l.length * 65536 + adX (lowH s) l l.length
theorem low_bd (s : Int) : 0 ≤ lowH s ∧ lowH s < 65521 := by unfold lowH; omega
theorem high_bd (s : Int) : 0 ≤ highH s ∧ highH s < 65521 := by unfold highH; omega
theorem adlF_bd (s : Int) (l : List Int) : 0 ≤ adlF s l ∧ adlF s l < 4294967296 := by
  have h1 := adX_bd (l := l) (low_bd s) l.length
  have h2 := adY_bd (x := lowH s) (l := l) (high_bd s) l.length
  unfold adlF
  omega
theorem adlF_app (s : Int) (a b : List Int) : adlF (adlF s a) b = adlF s (a ++ b) := by
  have h1 := adX_bd (l := a) (low_bd s) a.length
  have h2 := adY_bd (x := lowH s) (l := a) (high_bd s) a.length
  have e1 : lowH (adlF s a) = adX (lowH s) a a.length := by unfold adlF; unfold lowH at *; omega
  have e2 : highH (adlF s a) = adY (lowH s) (highH s) a a.length := by unfold adlF; unfold lowH highH at *; omega
  have e3 : adlF (adlF s a) b = adY (lowH (adlF s a)) (highH (adlF s a)) b b.length * 65536 + adX (lowH (adlF s a)) b b.length := rfl
  have e4 : adlF s (a ++ b) = adY (lowH s) (highH s) (a ++ b) (a ++ b).length * 65536 + adX (lowH s) (a ++ b) (a ++ b).length := rfl
  rw [e3, e4, e1, e2, List.length_append, adX_append, adY_append]
theorem adlF_nil (s : Int) (h : 0 ≤ s ∧ s < 4294967296) (h1 : s % 65536 < 65521) (h2 : s / 65536 < 65521) : adlF s [] = s := by
  show highH s * 65536 + lowH s = s
  unfold highH lowH; omega
/-- the first two bytes: 0, or the fault -/
def zHd (x : List Int) : Int :=
  if 1 ≤ x.length ∧ (ix x 0 % 16 ≠ 8 ∨ 7 < ix x 0 / 16) then 2 else if x.length < 2 then 5 else if (256 * ix x 0 + ix x 1) % 31 ≠ 0 ∨ ix x 1 / 32 % 2 ≠ 0 then 2 else 0
def zFin (x : List Int) (m : Nat) : IS × Int := (start (bts (x.drop 2)) m).fin
def big4 (R : List Int) : Int := ix R 0 * 16777216 + ix R 1 * 65536 + ix R 2 * 256 + ix R 3
def zTl (R : List Int) (s : Int) (en : Bool) : Int := if R.length < 4 then 5 else if big4 R ≠ s then 4 else if 4 < R.length then 2 else if en then 8 else 5
/-- how all of it ends -/
def zE (x : List Int) (m : Nat) (en : Bool) : Int :=
  if zHd x ≠ 0 then zHd x else if (zFin x m).2 ≠ 8 then (zFin x m).2 else zTl (byt (zFin x m).1.x) (adlF 1 (zFin x m).1.all) en
/-- all that comes out -/
def zAll (x : List Int) (m : Nat) : List Int := if zHd x ≠ 0 then [] else (zFin x m).1.all
theorem zE_ne (x : List Int) (m : Nat) (en : Bool) : zE x m en ≠ 0 := by
  unfold zE
  split
  · assumption
  · split
    · exact IS.fin_ne _
    · unfold zTl
      split
      · decide
      · split
        · decide
        · split
          · decide
          · split <;> decide
def ZIn (F : IS × Int) (a : List Int) (M : DM) (S : DS) : Prop := (∃ s, Alive F a M S s) ∨ Ended F a M S
theorem ZIn.pre {F : IS × Int} {a : List Int} {M : DM} {S : DS} (h : ZIn F a M S) : ∃ b, F.1.all = a ++ b := by
  rcases h with ⟨s, h⟩ | h
  · obtain ⟨b, h1, _⟩ := IS.fin_out s
    rw [h.fin, h.all] at h1
    exact ⟨b, h1⟩
  · exact ⟨[], by rw [h.all, List.append_nil]⟩
theorem zalive_end {F : IS × Int} {a : List Int} {M : DM} {S : DS} {s : IS} (h : Alive F a M S s) (h5 : s.step.2 = 5) : F.2 = 5 ∧ F.1.all = a := by
  have e := IS.fin_stop (s := s) (by rw [h5]; decide)
  rw [h.fin] at e
  rw [e]
  exact ⟨h5, by rw [IS.step_lack h5, h.all]⟩
end Go.Proofs.Ytjeedkjgjfbndaa
