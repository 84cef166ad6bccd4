/- Walks: marking every number of a list of lists. -/
import Derived.Test.YtfgkgjkgikghaaaMark
namespace Go.Proofs.Ytfgkgjkgikghaaa
set_option linter.unusedSimpArgs false
set_option linter.unusedVariables false
open Go.RowKit
theorem CellM.slice {a : Option Addr} {n c : Nat} {v : Value} (h : CellM (.slice a n c) v) : v = .slice a n c := by
  rcases h with h | ⟨_, _, h, _⟩
  · exact h
  · cases h
/-- The call returns a number; of the world only numbers in the blocks from lo on and below hi may have turned. -/
def GivesM (lo hi : Nat) (w : World) (r : Int) (e : Ending) (w' : World) : Prop := e = .returned (.int .i64 r) ∧ Marked lo hi w w'

end Go.Proofs.Ytfgkgjkgikghaaa
