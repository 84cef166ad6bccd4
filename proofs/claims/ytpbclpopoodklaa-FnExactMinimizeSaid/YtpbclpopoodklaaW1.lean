/- Lemmas for the proof of FnExactMaximize, part 6 of 56: no condition of their own. -/
import Derived.Test.YtpbclpopoodklaaBase
namespace Go.Proofs.Ytpbclpopoodklaa
set_option linter.unusedSimpArgs false
set_option linter.unusedVariables false
open Go.RowKit
def AscTo (xs:List Int) (k:Nat):Prop:=∀ i,i+1<k→ix xs i<ix xs (i+1)
noncomputable def ascB (xs:List Int):Bool:=@decide (AscTo xs xs.length) (Classical.propDecidable _)
open Classical in
noncomputable def firstIx (p:Nat→Prop):Nat→Nat
  | 0=>0
  | n+1=>if firstIx p n<n then firstIx p n else if p n then n else n+1
noncomputable def findF (xs:List Int) (v:Int):Int:=if firstIx (fun i=>ix xs i=v) xs.length<xs.length then (firstIx (fun i=>ix xs i=v) xs.length:Nat) else -1
noncomputable def seekF (xs:List Int) (from' v:Int):Int:=(firstIx (fun i=>from'≤(i:Int)∧v≤ix xs i) xs.length:Nat)
def lens (xss:List (List Int)):Nat→Nat
  | 0=>0
  | k+1=>lens xss k+(rx xss k).length
noncomputable def szF (xss:List (List Int)) (left:Int):Int:=if (xss.length+lens xss xss.length:Nat)≤left then left - (xss.length+lens xss xss.length:Nat) else -1
def szI (n:Nat) (left:Int):Int:=if (n:Int)≤left then left - n else -1
theorem szI_yes {n:Nat} {left:Int} (h:(n:Int)≤left):szI n left=left - n:=if_pos h
theorem szI_no {n:Nat} {left:Int} (h:¬ (n:Int)≤left):szI n left = -1:=if_neg h
end Go.Proofs.Ytpbclpopoodklaa
