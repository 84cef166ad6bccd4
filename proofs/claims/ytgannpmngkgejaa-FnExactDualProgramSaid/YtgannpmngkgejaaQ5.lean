/- Walks: the reference's comparing of rows and its valid values. -/
import Derived.Test.YtgannpmngkgejaaQ4
namespace Go.Proofs.Ytgannpmngkgejaa
set_option linter.unusedSimpArgs false
set_option linter.unusedVariables false
open Go.RowKit
end Go.Proofs.Ytgannpmngkgejaa
