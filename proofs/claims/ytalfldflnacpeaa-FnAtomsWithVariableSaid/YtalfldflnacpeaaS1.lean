/- Walks: the measure of a list of lists, from any measure left. -/
import Derived.Test.YtalfldflnacpeaaW1
namespace Go.Proofs.Ytalfldflnacpeaa
set_option linter.unusedSimpArgs false
set_option linter.unusedVariables false
open Go.RowKit
/-- how many places a list of lists takes in the measure -/
def rowsSz (xss : List (List Int)) : Nat := xss.length + lens xss xss.length
theorem rowsSz_row {xss : List (List Int)} {B : Nat} (h : rowsSz xss ≤ B) (i : Nat) : (rx xss i).length ≤ B := by
  unfold rowsSz at h
  by_cases hi : i < xss.length
  · have := lens_row (xss := xss) hi; omega
  · have : rx xss i = [] := by simp [rx, List.getElem?_eq_none (by omega : xss.length ≤ i)]
    rw [this]; simp
end Go.Proofs.Ytalfldflnacpeaa
