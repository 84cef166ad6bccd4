/- Walks: copying, measuring and comparing tries. -/
import Derived.Test.YtalfldflnacpeaaQ6
import Derived.Test.YtalfldflnacpeaaW4
import Derived.Test.YtalfldflnacpeaaW1
namespace Go.Proofs.Ytalfldflnacpeaa
set_option linter.unusedSimpArgs false
set_option linter.unusedVariables false
open Go.RowKit
/-- The call returns a trie in new memory; nothing that was there has turned. -/
def GivesTrie (w : World) (ar : Int) (rows : List (List Int)) (e : Ending) (w' : World) : Prop :=
  ∃ a n c, e = .returned (trieV ar a n c) ∧ RowsA true w.heap.size w'.heap.size w' a n c rows ∧ Below w.heap.size w w'
open Classical in
noncomputable def eqT (ar ar' : Int) (rows rows' : List (List Int)) : Bool := decide (ar = ar' ∧ rows = rows')
end Go.Proofs.Ytalfldflnacpeaa
