/- Walks: the reference's comparing of rows and its valid values. -/
import Derived.Test.YtfgkgjkgikghaaaQ4
namespace Go.Proofs.Ytfgkgjkgikghaaa
set_option linter.unusedSimpArgs false
set_option linter.unusedVariables false
open Go.RowKit
end Go.Proofs.Ytfgkgjkgikghaaa
