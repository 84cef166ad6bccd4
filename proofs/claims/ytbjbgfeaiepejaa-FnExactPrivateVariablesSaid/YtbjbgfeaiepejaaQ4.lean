/- Walks: comparing rows. -/
import Derived.Test.YtbjbgfeaiepejaaQ3
namespace Go.Proofs.Ytbjbgfeaiepejaa
open Go.RowKit
end Go.Proofs.Ytbjbgfeaiepejaa
