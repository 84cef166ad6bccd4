/- Walks: valid relations and tries. -/
import Derived.Test.YtalfldflnacpeaaQ4
import Derived.Test.YtalfldflnacpeaaW4
namespace Go.Proofs.Ytalfldflnacpeaa
set_option linter.unusedSimpArgs false
set_option linter.unusedVariables false
open Go.RowKit
/-- row i of a valid relation of that arity -/
def RowOK (ar : Int) (rows : List (List Int)) (i : Nat) : Prop := ((rx rows i).length : Int) = ar ∧ valB (rx rows i) = true ∧ (0 < i → cmpR (rx rows (i - 1)) (rx rows i) < 0)
open Classical in
/-- what IsValidRelation returns -/
noncomputable def validR (ar : Int) (rows : List (List Int)) : Bool := decide ((0 ≤ ar ∧ ar ≤ 5) ∧ rows.length ≤ 4000 ∧ ∀ i, i < rows.length → RowOK ar rows i)
theorem validR_true {ar : Int} {rows : List (List Int)} (h1 : 0 ≤ ar ∧ ar ≤ 5) (h2 : rows.length ≤ 4000) (h3 : ∀ i, i < rows.length → RowOK ar rows i) : validR ar rows = true := by
  simp only [validR, decide_eq_true_eq]; exact ⟨h1, h2, h3⟩
theorem validR_ar {ar : Int} {rows : List (List Int)} (h1 : ¬ (0 ≤ ar ∧ ar ≤ 5)) : validR ar rows = false := by
  simp only [validR, decide_eq_false_iff_not]; exact fun h => h1 h.1
theorem validR_big {ar : Int} {rows : List (List Int)} (h1 : ¬ rows.length ≤ 4000) : validR ar rows = false := by
  simp only [validR, decide_eq_false_iff_not]; exact fun h => h1 h.2.1
theorem validR_row {ar : Int} {rows : List (List Int)} {i : Nat} (hi : i < rows.length) (h1 : ¬ RowOK ar rows i) : validR ar rows = false := by
  simp only [validR, decide_eq_false_iff_not]; exact fun h => h1 (h.2.2 i hi)
theorem validR_out {ar : Int} {rows : List (List Int)} (h : validR ar rows = true) : (0 ≤ ar ∧ ar ≤ 5) ∧ rows.length ≤ 4000 ∧ ∀ i, i < rows.length → RowOK ar rows i := by
  simpa only [validR, decide_eq_true_eq] using h
end Go.Proofs.Ytalfldflnacpeaa
