/- Walks: copying, measuring and comparing tries. -/
import Derived.Test.YtalfldflnacpeaaQ7
import Derived.Test.YtalfldflnacpeaaW5
import Derived.Test.YtalfldflnacpeaaS1
namespace Go.Proofs.Ytalfldflnacpeaa
set_option linter.unusedSimpArgs false
set_option linter.unusedVariables false
open Go.RowKit
/-- The call returns a trie in new memory; nothing that was there has turned. -/
def GivesTrie (w : World) (ar : Int) (rows : List (List Int)) (e : Ending) (w' : World) : Prop :=
  ∃ a n c, e = .returned (trieV ar a n c) ∧ RowsA true w.heap.size w'.heap.size w' a n c rows ∧ Below w.heap.size w w'
open Classical in
noncomputable def eqT (ar ar' : Int) (rows rows' : List (List Int)) : Bool := decide (ar = ar' ∧ rows = rows')
theorem eqT_refl (ar : Int) (rows : List (List Int)) : eqT ar ar rows rows = true := by simp [eqT]
end Go.Proofs.Ytalfldflnacpeaa
