/- Walks: copying a list of lists; the law FnExactShortestLength. -/
import Derived.Test.YtgannpmngkgejaaW4
namespace Go.Proofs.Ytgannpmngkgejaa
set_option linter.unusedSimpArgs false
set_option linter.unusedVariables false
open Go.RowKit
/-- The call returns a list of lists in new memory; nothing that was there has turned. -/
def GivesRows (w : World) (xss : List (List Int)) (e : Ending) (w' : World) : Prop :=
  ∃ a n c, e = .returned (.slice a n c) ∧ RowsA true w.heap.size w'.heap.size w' a n c xss ∧ Below w.heap.size w w'
end Go.Proofs.Ytgannpmngkgejaa
