/- Walks: comparing rows. -/
import Derived.Test.YtnipfgmldhepkaaQ3
namespace Go.Proofs.Ytnipfgmldhepkaa
set_option linter.unusedSimpArgs false
set_option linter.unusedVariables false
open Go.RowKit
end Go.Proofs.Ytnipfgmldhepkaa
