/- Lemmas for the proof of FnMinimum, part 19 of 52: no condition of their own. -/
import Derived.Test.YtalkhmgfnmaaaaaZD
import Derived.Test.YtalkhmgfnmaaaaaR6
namespace Go.Proofs.Ytalkhmgfnmaaaaa
set_option linter.unusedSimpArgs false
set_option linter.unusedVariables false
open Go.RowKit
def ratDV (x:RatD):DV:=.agg [.int x.num,.int x.den]
abbrev ratsD (xs:List RatD):DV:=.sl 2 (xs.map ratDV)
theorem cxs_two {C:Nat→Nat→Prop} {w:World} {x y:Int} {us:List Value}:CXs C w [.int x,.int y] us↔us=[.int .i64 x,.int .i64 y]∧I64 x∧I64 y:=by
  constructor
  · rintro ⟨u,t,rfl,⟨rfl,h1⟩,u2,t2,rfl,⟨rfl,h2⟩,rfl⟩;exact ⟨rfl,h1,h2⟩
  · rintro ⟨rfl,h1,h2⟩;exact ⟨[.int .i64 x],_,rfl,⟨rfl,h1⟩,[.int .i64 y],[],rfl,⟨rfl,h2⟩,rfl⟩
end Go.Proofs.Ytalkhmgfnmaaaaa
