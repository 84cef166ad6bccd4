/- Walks: seeking in a list, comparing two lists, measuring and copying a list. -/
import Derived.Test.YtjfhjlbofoknfaaW1
namespace Go.Proofs.Ytjfhjlbofoknfaa
set_option linter.unusedSimpArgs false
set_option linter.unusedVariables false
open Go.RowKit

theorem seekF_ge {xs : List Int} {f v : Int} (h : (xs.length : Int) ≤ f) : seekF xs f v = xs.length := seekF_none fun i hi hf => by omega

end Go.Proofs.Ytjfhjlbofoknfaa
