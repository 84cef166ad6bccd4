/- Walks: the reference's comparing of rows and its valid values. -/
import Derived.Test.YtbjbgfeaiepejaaQ4
namespace Go.Proofs.Ytbjbgfeaiepejaa
open Go.RowKit
end Go.Proofs.Ytbjbgfeaiepejaa
