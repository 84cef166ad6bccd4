/- Walks: comparing rows. -/
import Derived.Test.YtkhilfgkejienaaQ3
namespace Go.Proofs.Ytkhilfgkejienaa
set_option linter.unusedSimpArgs false
set_option linter.unusedVariables false
open Go.RowKit
end Go.Proofs.Ytkhilfgkejienaa
