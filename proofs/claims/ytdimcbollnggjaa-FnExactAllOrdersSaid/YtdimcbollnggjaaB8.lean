/- The walk of the degree of a variable, both sides. -/
import Derived.Test.YtdimcbollnggjaaB7
namespace Go.Proofs.Ytdimcbollnggjaa
set_option linter.unusedSimpArgs false
set_option linter.unusedVariables false
open Go.RowKit
/-- what VariableDegree returns -/
noncomputable def degF (nv : Int) (xs : List AtomD) (us : List Int) (v : Int) : Nat := (awF nv xs us v).length
theorem degF_no {nv : Int} {xs : List AtomD} {us : List Int} {v : Int} (h : qOK nv xs us = false) : degF nv xs us v = 0 := by simp [degF, awF_no h]
theorem degF_yes {nv : Int} {xs : List AtomD} {us : List Int} {v : Int} (h : qOK nv xs us = true) : degF nv xs us v = (awTo xs v xs.length).length := by simp [degF, awF_yes h]
theorem degF_le (nv : Int) (xs : List AtomD) (us : List Int) (v : Int) : degF nv xs us v ≤ 4 := awF_len nv xs us v
end Go.Proofs.Ytdimcbollnggjaa
