/- The draw of an order of columns. -/
import Derived.Test.YtalfldflnacpeaaD1
import Derived.Test.YtalfldflnacpeaaPF
namespace Go.Proofs.Ytalfldflnacpeaa
set_option linter.unusedSimpArgs false
set_option linter.unusedVariables false
open Go.RowKit
/-- how far it is from k to v, around -/
def around (n k v : Int) : Nat := (if k ≤ v then v - k else v - k + n).toNat
end Go.Proofs.Ytalfldflnacpeaa
