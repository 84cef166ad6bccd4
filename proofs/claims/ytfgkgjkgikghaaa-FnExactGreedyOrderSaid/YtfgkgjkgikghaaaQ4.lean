/- Walks: comparing rows. -/
import Derived.Test.YtfgkgjkgikghaaaQ3
namespace Go.Proofs.Ytfgkgjkgikghaaa
set_option linter.unusedSimpArgs false
set_option linter.unusedVariables false
open Go.RowKit
end Go.Proofs.Ytfgkgjkgikghaaa
