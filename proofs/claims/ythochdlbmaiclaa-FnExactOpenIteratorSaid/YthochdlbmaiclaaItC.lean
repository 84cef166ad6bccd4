/- How many numbers an iterator holds, against its measure. -/
import Derived.Test.YthochdlbmaiclaaIt
namespace Go.Proofs.Ythochdlbmaiclaa
set_option linter.unusedSimpArgs false
set_option linter.unusedVariables false
theorem cntIter_le (rows : List (List Int)) (lw gh ps : List Int) : cntIter rows lw gh ps ≤ szIter rows lw gh ps := by
  unfold cntIter szIter rowsSz; omega
theorem szIter_pos {rows : List (List Int)} {lw gh ps : List Int} {B : Nat} (h : szIter rows lw gh ps ≤ B) : ps.length ≤ B := by unfold szIter at h; omega
end Go.Proofs.Ythochdlbmaiclaa
