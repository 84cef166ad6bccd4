/- Walks: comparing rows. -/
import Derived.Test.YtjfhjlbofoknfaaQ3
namespace Go.Proofs.Ytjfhjlbofoknfaa
set_option linter.unusedSimpArgs false
set_option linter.unusedVariables false
open Go.RowKit
end Go.Proofs.Ytjfhjlbofoknfaa
