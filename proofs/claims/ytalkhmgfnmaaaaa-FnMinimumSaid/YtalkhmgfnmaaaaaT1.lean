/- Lemmas for the proof of FnMinimum, part 15 of 52: no condition of their own. -/
import Derived.Test.YtalkhmgfnmaaaaaQ6
import Derived.Test.YtalkhmgfnmaaaaaW4
import Derived.Test.YtalkhmgfnmaaaaaW1
namespace Go.Proofs.Ytalkhmgfnmaaaaa
set_option linter.unusedSimpArgs false
set_option linter.unusedVariables false
open Go.RowKit
open Classical in
noncomputable def eqT (ar ar':Int) (rows rows':List (List Int)):Bool:=decide (ar=ar'∧rows=rows')
end Go.Proofs.Ytalkhmgfnmaaaaa
