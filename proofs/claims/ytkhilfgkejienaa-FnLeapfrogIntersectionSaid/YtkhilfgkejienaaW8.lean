/- Walks: the reference's intersection of lists. -/
import Derived.Test.YtkhilfgkejienaaW7
namespace Go.Proofs.Ytkhilfgkejienaa
set_option linter.unusedSimpArgs false
set_option linter.unusedVariables false
open Go.RowKit

end Go.Proofs.Ytkhilfgkejienaa
