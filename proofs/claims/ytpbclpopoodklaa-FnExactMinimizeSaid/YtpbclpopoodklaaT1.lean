/- Lemmas for the proof of FnExactMaximize, part 15 of 56: no condition of their own. -/
import Derived.Test.YtpbclpopoodklaaQ6
import Derived.Test.YtpbclpopoodklaaW4
import Derived.Test.YtpbclpopoodklaaW1
namespace Go.Proofs.Ytpbclpopoodklaa
set_option linter.unusedSimpArgs false
set_option linter.unusedVariables false
open Go.RowKit
open Classical in
noncomputable def eqT (ar ar':Int) (rows rows':List (List Int)):Bool:=decide (ar=ar'∧rows=rows')
end Go.Proofs.Ytpbclpopoodklaa
