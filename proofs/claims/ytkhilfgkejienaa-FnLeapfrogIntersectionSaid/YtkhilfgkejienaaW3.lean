/- Walks over lists of lists of numbers that only read. -/
import Derived.Test.YtkhilfgkejienaaW2
namespace Go.Proofs.Ytkhilfgkejienaa
set_option linter.unusedSimpArgs false
set_option linter.unusedVariables false
open Go.RowKit

/-- the sum of the lengths of the first k rows -/
def lens (xss : List (List Int)) : Nat → Nat
  | 0 => 0
  | k + 1 => lens xss k + (rx xss k).length
theorem lens_mono {xss : List (List Int)} {i k : Nat} (h : i ≤ k) : lens xss i ≤ lens xss k := by
  induction k with
  | zero => obtain rfl : i = 0 := by omega
            exact Nat.le_refl _
  | succ k ih =>
    by_cases e : i = k + 1
    · subst e; exact Nat.le_refl _
    · have := ih (by omega); simp only [lens]; omega
theorem lens_row {xss : List (List Int)} {i k : Nat} (h : i < k) : (rx xss i).length ≤ lens xss k := by
  have := lens_mono (xss := xss) (i := i + 1) (k := k) (by omega); simp only [lens] at this; omega
/-- what the measure of a list of lists leaves -/
noncomputable def szF (xss : List (List Int)) (left : Int) : Int := if (xss.length + lens xss xss.length : Nat) ≤ left then left - (xss.length + lens xss xss.length : Nat) else -1

/-- what the measure of a list leaves -/
def szI (n : Nat) (left : Int) : Int := if (n : Int) ≤ left then left - n else -1
theorem szI_yes {n : Nat} {left : Int} (h : (n : Int) ≤ left) : szI n left = left - n := if_pos h
theorem szI_no {n : Nat} {left : Int} (h : ¬ (n : Int) ≤ left) : szI n left = -1 := if_neg h
end Go.Proofs.Ytkhilfgkejienaa
