/- Walks: comparing rows. -/
import Derived.Test.YtalfldflnacpeaaQ2
namespace Go.Proofs.Ytalfldflnacpeaa
set_option linter.unusedSimpArgs false
set_option linter.unusedVariables false
open Go.RowKit
/- Walks: the reference's comparing of rows and its valid values. -/
end Go.Proofs.Ytalfldflnacpeaa
