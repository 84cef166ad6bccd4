/- Where a number stands in a list, as a contract. -/
import Derived.Test.YtalfldflnacpeaaW1
import Derived.Test.YtalfldflnacpeaaZD
import Derived.Test.YtalfldflnacpeaaPg
namespace Go.Proofs.Ytalfldflnacpeaa
set_option linter.unusedSimpArgs false
set_option linter.unusedVariables false
open Go.RowKit
end Go.Proofs.Ytalfldflnacpeaa
