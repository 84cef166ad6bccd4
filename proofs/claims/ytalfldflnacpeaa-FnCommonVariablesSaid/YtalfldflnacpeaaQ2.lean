/- Walks: comparing numbers and rows, valid values. -/
import Derived.Test.YtalfldflnacpeaaQ1
namespace Go.Proofs.Ytalfldflnacpeaa
set_option linter.unusedSimpArgs false
set_option linter.unusedVariables false
open Go.RowKit
/-- -1, 0 or 1 -/
def cmpI (x y : Int) : Int := if x < y then -1 else if y < x then 1 else 0
/-- all of the first k values lie from 0 to 99 -/
def ValTo (xs : List Int) (k : Nat) : Prop := ∀ i, i < k → 0 ≤ ix xs i ∧ ix xs i ≤ 99
open Classical in
noncomputable def valB (xs : List Int) : Bool := decide (ValTo xs xs.length)
/- Comparing rows: the plain law. -/
/-- rows in the order of their first difference, then of their lengths -/
def cmpR : List Int → List Int → Int
  | x :: xs, y :: ys => if x = y then cmpR xs ys else cmpI x y
  | [], [] => 0
  | [], _ :: _ => -1
  | _ :: _, [] => 1
end Go.Proofs.Ytalfldflnacpeaa
