/- The walk of the test of an order, both sides. -/
import Derived.Test.YtalfldflnacpeaaB4
namespace Go.Proofs.Ytalfldflnacpeaa
set_option linter.unusedSimpArgs false
set_option linter.unusedVariables false
open Go.RowKit
/-- what IsValidOrder returns -/
noncomputable def ordOK (nv : Int) (xs : List AtomD) (us os : List Int) : Bool := qOK nv xs us && (decide ((os.length : Int) = nv) && setB os nv)
/- The walk of the default order, both sides. -/
/-- the first k numbers -/
def idTo (k : Nat) : List Int := (List.range k).map fun (i : Nat) => (i : Int)
theorem idTo_len (k : Nat) : (idTo k).length = k := by simp [idTo]
/-- what DefaultOrder returns -/
noncomputable def defF (nv : Int) (xs : List AtomD) (us : List Int) : List Int := if qOK nv xs us = true then idTo nv.toNat else []
end Go.Proofs.Ytalfldflnacpeaa
