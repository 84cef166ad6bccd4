/- Walks: comparing numbers and rows, valid values. -/
import Derived.Test.YtfgkgjkgikghaaaQ1
namespace Go.Proofs.Ytfgkgjkgikghaaa
set_option linter.unusedSimpArgs false
set_option linter.unusedVariables false
open Go.RowKit
/-- -1, 0 or 1 -/
def cmpI (x y : Int) : Int := if x < y then -1 else if y < x then 1 else 0
/-- all of the first k values lie from 0 to 99 -/
def ValTo (xs : List Int) (k : Nat) : Prop := ∀ i, i < k → 0 ≤ ix xs i ∧ ix xs i ≤ 99
open Classical in
noncomputable def valB (xs : List Int) : Bool := decide (ValTo xs xs.length)
theorem valB_true {xs : List Int} (h : ValTo xs xs.length) : valB xs = true := by simp [valB, h]
theorem valB_false {xs : List Int} {i : Nat} (hi : i < xs.length) (h : ¬ (0 ≤ ix xs i ∧ ix xs i ≤ 99)) : valB xs = false := by
  simp only [valB, decide_eq_false_iff_not]; intro hh; exact h (hh i hi)
end Go.Proofs.Ytfgkgjkgikghaaa
