/- Walks: the reference's comparing of rows and its valid values. -/
import Derived.Test.YtkhilfgkejienaaQ4
namespace Go.Proofs.Ytkhilfgkejienaa
set_option linter.unusedSimpArgs false
set_option linter.unusedVariables false
open Go.RowKit
end Go.Proofs.Ytkhilfgkejienaa
