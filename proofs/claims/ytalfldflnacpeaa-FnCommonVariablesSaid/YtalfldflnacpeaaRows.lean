/-
  No cell of these rows narrows 'for every input' (looked for: loops, veiled, ifaces, maps, wideKeys, modest, calm, conditions, laid).
  DERIVED. THE GIVEN ROWS OF THIS SEAT. 4 by the template 'for every input the law returns true; each argument reads behind the call as it read before'; 0 by the template 'total and deterministic' (their statements: YtalfldflnacpeaaTotals.lean).
  GIVEN WITH THE SEED: the statements are not yours to turn. If you find one false, say at which input.
  Laid BY PROGRAM, IN A SANDBOX (cutbox-rows.mjs): the forced cells as the released guide's own fill.sh prints them over the translation 5117432bc615dca9… (all of the seat's roots in one cut). By AI agents, Wed Nov 11 2026. No macro, syntax, notation, axiom, sorry.
-/
import Derived.Test.YtalfldflnacpeaaChecked
import GoSem.Claim
import GoSem.ClaimJoined
import GoSem.ClaimMapViews
import Derived.JoinedTies
import Derived.KernelRfl
namespace Go.Proofs.Ytalfldflnacpeaa
/- THE CELL 'sum', in the pinned program and in every row, IS THE sha256 OF THE DUMP (.gsa) THAT YtalfldflnacpeaaProg.lean LOADS. Nothing in Lean hashes anything: it is a label: what it is worth is what the hold of that sum in a sandbox is worth. -/
noncomputable def Try.pinned : Pinned := { name := "ytalfldflnacpeaa", sum := "5117432bc615dca9c5f194a7b5072aa733fdfed321a782626b3f431e7c826428", checked := Try.checked }
namespace Rows
def none {H : Type} : Left H := { results := [], args := [] }

/-- 'laws.FnAtomsWithVariable': WHATEVER THE INPUT: true; the input reads as it did. -/
def fnAtomsWithVariableSpec : ChangeSpec := { name := "fnAtomsWithVariable", fn := fun _ => fun
  | [d] => { results := [.lit (.bool true)], args := [d] }
  | _ => none }
def fnAtomsWithVariableRow : OpenClaim := { program := "ytalfldflnacpeaa", sum := "5117432bc615dca9c5f194a7b5072aa733fdfed321a782626b3f431e7c826428", func := "loop.example/g01917/laws.FnAtomsWithVariable", spec := "fnAtomsWithVariable", apart := false }
def FnAtomsWithVariableSaid : Prop := fnAtomsWithVariableRow.holds Try.pinned (OpenSpec.ofChange fnAtomsWithVariableSpec)

/-- ITS FALSE NEIGHBOUR: 'it returns false'. Refute it at one input. -/
def fnAtomsWithVariableWrong : ChangeSpec := { name := "fnAtomsWithVariable", fn := fun _ => fun
  | [d] => { results := [.lit (.bool false)], args := [d] }
  | _ => none }
def FnAtomsWithVariableWrongFalsely : Prop := fnAtomsWithVariableRow.holds Try.pinned (OpenSpec.ofChange fnAtomsWithVariableWrong)

/-- 'laws.FnCommonVariables': WHATEVER THE INPUT: true; the input reads as it did. -/
def fnCommonVariablesSpec : ChangeSpec := { name := "fnCommonVariables", fn := fun _ => fun
  | [d] => { results := [.lit (.bool true)], args := [d] }
  | _ => none }
def fnCommonVariablesRow : OpenClaim := { program := "ytalfldflnacpeaa", sum := "5117432bc615dca9c5f194a7b5072aa733fdfed321a782626b3f431e7c826428", func := "loop.example/g01917/laws.FnCommonVariables", spec := "fnCommonVariables", apart := false }
def FnCommonVariablesSaid : Prop := fnCommonVariablesRow.holds Try.pinned (OpenSpec.ofChange fnCommonVariablesSpec)

/-- ITS FALSE NEIGHBOUR: 'it returns false'. Refute it at one input. -/
def fnCommonVariablesWrong : ChangeSpec := { name := "fnCommonVariables", fn := fun _ => fun
  | [d] => { results := [.lit (.bool false)], args := [d] }
  | _ => none }
def FnCommonVariablesWrongFalsely : Prop := fnCommonVariablesRow.holds Try.pinned (OpenSpec.ofChange fnCommonVariablesWrong)

/-- 'laws.FnConnectedComponents': WHATEVER THE INPUT: true; the input reads as it did. -/
def fnConnectedComponentsSpec : ChangeSpec := { name := "fnConnectedComponents", fn := fun _ => fun
  | [d] => { results := [.lit (.bool true)], args := [d] }
  | _ => none }
def fnConnectedComponentsRow : OpenClaim := { program := "ytalfldflnacpeaa", sum := "5117432bc615dca9c5f194a7b5072aa733fdfed321a782626b3f431e7c826428", func := "loop.example/g01917/laws.FnConnectedComponents", spec := "fnConnectedComponents", apart := false }
def FnConnectedComponentsSaid : Prop := fnConnectedComponentsRow.holds Try.pinned (OpenSpec.ofChange fnConnectedComponentsSpec)

/-- ITS FALSE NEIGHBOUR: 'it returns false'. Refute it at one input. -/
def fnConnectedComponentsWrong : ChangeSpec := { name := "fnConnectedComponents", fn := fun _ => fun
  | [d] => { results := [.lit (.bool false)], args := [d] }
  | _ => none }
def FnConnectedComponentsWrongFalsely : Prop := fnConnectedComponentsRow.holds Try.pinned (OpenSpec.ofChange fnConnectedComponentsWrong)

/-- 'laws.FnOrders': WHATEVER THE INPUT: true; the input reads as it did. -/
def fnOrdersSpec : ChangeSpec := { name := "fnOrders", fn := fun _ => fun
  | [d] => { results := [.lit (.bool true)], args := [d] }
  | _ => none }
def fnOrdersRow : OpenClaim := { program := "ytalfldflnacpeaa", sum := "5117432bc615dca9c5f194a7b5072aa733fdfed321a782626b3f431e7c826428", func := "loop.example/g01917/laws.FnOrders", spec := "fnOrders", unfollowed := true, recurses := true, apart := false }
def FnOrdersSaid : Prop := fnOrdersRow.holds Try.pinned (OpenSpec.ofChange fnOrdersSpec)

/-- ITS FALSE NEIGHBOUR: 'it returns false'. Refute it at one input. -/
def fnOrdersWrong : ChangeSpec := { name := "fnOrders", fn := fun _ => fun
  | [d] => { results := [.lit (.bool false)], args := [d] }
  | _ => none }
def FnOrdersWrongFalsely : Prop := fnOrdersRow.holds Try.pinned (OpenSpec.ofChange fnOrdersWrong)

/- THE SECOND FORM. 'bulk': how many values and letters a reading holds, each counted each time it is reached (what is shared counts as often as it is met; a slice's spare places count too). A statement '..UptoSaid' is the law's where the arguments, and the package variables that the reading takes, are together of bulk at most 1048576: NARROWER than '..Said'. Prove '..Said' where nothing that the law and all that it calls make is longer than what came in: it says more and counts as full. Else prove '..UptoSaid'. A law counts once. -/
mutual
def uptoBulk {H : Type} : DataW H → Nat
  | .lit (.string bytes) => bytes.length + 1
  | .lit _ => 1
  | .nil => 1
  | .ptr d => uptoBulk d + 1
  | .slice elems spare => uptoBulkAll elems + uptoBulkAll spare + 1
  | .agg parts => uptoBulkAll parts + 1
  | .iface _ d => uptoBulk d + 1
  | .map entries => uptoBulkEntries entries + 1
  | .held _ => 1
def uptoBulkAll {H : Type} : List (DataW H) → Nat
  | [] => 0
  | d :: r => uptoBulk d + uptoBulkAll r
def uptoBulkEntries {H : Type} : List (Lit × DataW H) → Nat
  | [] => 0
  | x :: r => uptoBulkEntry x + uptoBulkEntries r
def uptoBulkEntry {H : Type} : Lit × DataW H → Nat
  | (.string bytes, d) => bytes.length + uptoBulk d + 1
  | (_, d) => uptoBulk d + 1
 end
def uptoSmall : (H : Type) → List (DataW H) → Bool := fun _ ds => decide (uptoBulkAll ds ≤ 1048576)
def OpenSpec.upto (s : _root_.Go.ChangeSpec) : _root_.Go.OpenSpec := { _root_.Go.OpenSpec.ofChange s with cond := some uptoSmall }

/-- 'laws.FnAtomsWithVariable', WHERE WHAT IT READS IS OF BULK AT MOST 1048576: true; the input reads as it did. -/
def fnAtomsWithVariableUptoRow : OpenClaim := { program := "ytalfldflnacpeaa", sum := "5117432bc615dca9c5f194a7b5072aa733fdfed321a782626b3f431e7c826428", func := "loop.example/g01917/laws.FnAtomsWithVariable", spec := "fnAtomsWithVariable", apart := false, narrowed := true }
def FnAtomsWithVariableUptoSaid : Prop := fnAtomsWithVariableUptoRow.holds Try.pinned (OpenSpec.upto fnAtomsWithVariableSpec)

/-- 'laws.FnCommonVariables', WHERE WHAT IT READS IS OF BULK AT MOST 1048576: true; the input reads as it did. -/
def fnCommonVariablesUptoRow : OpenClaim := { program := "ytalfldflnacpeaa", sum := "5117432bc615dca9c5f194a7b5072aa733fdfed321a782626b3f431e7c826428", func := "loop.example/g01917/laws.FnCommonVariables", spec := "fnCommonVariables", apart := false, narrowed := true }
def FnCommonVariablesUptoSaid : Prop := fnCommonVariablesUptoRow.holds Try.pinned (OpenSpec.upto fnCommonVariablesSpec)

/-- 'laws.FnConnectedComponents', WHERE WHAT IT READS IS OF BULK AT MOST 1048576: true; the input reads as it did. -/
def fnConnectedComponentsUptoRow : OpenClaim := { program := "ytalfldflnacpeaa", sum := "5117432bc615dca9c5f194a7b5072aa733fdfed321a782626b3f431e7c826428", func := "loop.example/g01917/laws.FnConnectedComponents", spec := "fnConnectedComponents", apart := false, narrowed := true }
def FnConnectedComponentsUptoSaid : Prop := fnConnectedComponentsUptoRow.holds Try.pinned (OpenSpec.upto fnConnectedComponentsSpec)

/-- 'laws.FnOrders', WHERE WHAT IT READS IS OF BULK AT MOST 1048576: true; the input reads as it did. -/
def fnOrdersUptoRow : OpenClaim := { program := "ytalfldflnacpeaa", sum := "5117432bc615dca9c5f194a7b5072aa733fdfed321a782626b3f431e7c826428", func := "loop.example/g01917/laws.FnOrders", spec := "fnOrders", unfollowed := true, recurses := true, apart := false, narrowed := true }
def FnOrdersUptoSaid : Prop := fnOrdersUptoRow.holds Try.pinned (OpenSpec.upto fnOrdersSpec)

end Rows
end Go.Proofs.Ytalfldflnacpeaa
