/- Walks: comparing rows. -/
import Derived.Test.YtgannpmngkgejaaQ3
namespace Go.Proofs.Ytgannpmngkgejaa
set_option linter.unusedSimpArgs false
set_option linter.unusedVariables false
open Go.RowKit
end Go.Proofs.Ytgannpmngkgejaa
