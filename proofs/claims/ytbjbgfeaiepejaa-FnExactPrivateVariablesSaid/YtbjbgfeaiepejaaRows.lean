/-
  No cell of these rows narrows 'for every input' (looked for: loops, veiled, ifaces, maps, wideKeys, modest, calm, conditions, laid).
  DERIVED. THE GIVEN ROWS OF THIS SEAT. 6 by the template 'for every input the law returns true; each argument reads behind the call as it read before'; 0 by the template 'total and deterministic' (their statements: YtbjbgfeaiepejaaTotals.lean).
  GIVEN WITH THE SEED: the statements are not yours to turn. If you find one false, say at which input.
  Laid BY PROGRAM, IN A SANDBOX (cutbox-rows.mjs): the forced cells as the released guide's own fill.sh prints them over the translation d2b14b36a3a75ad1… (all of the seat's roots in one cut). By AI agents, Wed Nov 11 2026. No macro, syntax, notation, axiom, sorry.
-/
import Derived.Test.YtbjbgfeaiepejaaChecked
import GoSem.Claim
import GoSem.ClaimJoined
import GoSem.ClaimMapViews
import Derived.JoinedTies
import Derived.KernelRfl
namespace Go.Proofs.Ytbjbgfeaiepejaa
/- THE CELL 'sum', in the pinned program and in every row, IS THE sha256 OF THE DUMP (.gsa) THAT YtbjbgfeaiepejaaProg.lean LOADS. Nothing in Lean hashes anything: it is a label: what it is worth is what the hold of that sum in a sandbox is worth. -/
noncomputable def Try.pinned : Pinned := { name := "ytbjbgfeaiepejaa", sum := "d2b14b36a3a75ad167a603b0a0627a200476fffd5506323caccb6223da656cab", checked := Try.checked }
namespace Rows
def none {H : Type} : Left H := { results := [], args := [] }

/-- 'laws.FnExactColumnsForOrder': WHATEVER THE INPUT: true; the input reads as it did. -/
def fnExactColumnsForOrderSpec : ChangeSpec := { name := "fnExactColumnsForOrder", fn := fun _ => fun
  | [d1, d2] => { results := [.lit (.bool true)], args := [d1, d2] }
  | _ => none }
def fnExactColumnsForOrderRow : OpenClaim := { program := "ytbjbgfeaiepejaa", sum := "d2b14b36a3a75ad167a603b0a0627a200476fffd5506323caccb6223da656cab", func := "loop.example/g01917/laws.FnExactColumnsForOrder", spec := "fnExactColumnsForOrder", apart := false }
def FnExactColumnsForOrderSaid : Prop := fnExactColumnsForOrderRow.holds Try.pinned (OpenSpec.ofChange fnExactColumnsForOrderSpec)

/-- ITS FALSE NEIGHBOUR: 'it returns false'. Refute it at one input. -/
def fnExactColumnsForOrderWrong : ChangeSpec := { name := "fnExactColumnsForOrder", fn := fun _ => fun
  | [d1, d2] => { results := [.lit (.bool false)], args := [d1, d2] }
  | _ => none }
def FnExactColumnsForOrderWrongFalsely : Prop := fnExactColumnsForOrderRow.holds Try.pinned (OpenSpec.ofChange fnExactColumnsForOrderWrong)

/-- 'laws.FnExactIsValidOrder': WHATEVER THE INPUT: true; the input reads as it did. -/
def fnExactIsValidOrderSpec : ChangeSpec := { name := "fnExactIsValidOrder", fn := fun _ => fun
  | [d1, d2] => { results := [.lit (.bool true)], args := [d1, d2] }
  | _ => none }
def fnExactIsValidOrderRow : OpenClaim := { program := "ytbjbgfeaiepejaa", sum := "d2b14b36a3a75ad167a603b0a0627a200476fffd5506323caccb6223da656cab", func := "loop.example/g01917/laws.FnExactIsValidOrder", spec := "fnExactIsValidOrder", apart := false }
def FnExactIsValidOrderSaid : Prop := fnExactIsValidOrderRow.holds Try.pinned (OpenSpec.ofChange fnExactIsValidOrderSpec)

/-- ITS FALSE NEIGHBOUR: 'it returns false'. Refute it at one input. -/
def fnExactIsValidOrderWrong : ChangeSpec := { name := "fnExactIsValidOrder", fn := fun _ => fun
  | [d1, d2] => { results := [.lit (.bool false)], args := [d1, d2] }
  | _ => none }
def FnExactIsValidOrderWrongFalsely : Prop := fnExactIsValidOrderRow.holds Try.pinned (OpenSpec.ofChange fnExactIsValidOrderWrong)

/-- 'laws.FnExactVariableDegree': WHATEVER THE INPUT: true; the input reads as it did. -/
def fnExactVariableDegreeSpec : ChangeSpec := { name := "fnExactVariableDegree", fn := fun _ => fun
  | [d1, d2] => { results := [.lit (.bool true)], args := [d1, d2] }
  | _ => none }
def fnExactVariableDegreeRow : OpenClaim := { program := "ytbjbgfeaiepejaa", sum := "d2b14b36a3a75ad167a603b0a0627a200476fffd5506323caccb6223da656cab", func := "loop.example/g01917/laws.FnExactVariableDegree", spec := "fnExactVariableDegree", apart := false }
def FnExactVariableDegreeSaid : Prop := fnExactVariableDegreeRow.holds Try.pinned (OpenSpec.ofChange fnExactVariableDegreeSpec)

/-- ITS FALSE NEIGHBOUR: 'it returns false'. Refute it at one input. -/
def fnExactVariableDegreeWrong : ChangeSpec := { name := "fnExactVariableDegree", fn := fun _ => fun
  | [d1, d2] => { results := [.lit (.bool false)], args := [d1, d2] }
  | _ => none }
def FnExactVariableDegreeWrongFalsely : Prop := fnExactVariableDegreeRow.holds Try.pinned (OpenSpec.ofChange fnExactVariableDegreeWrong)

/-- 'laws.FnExactDefaultOrder': WHATEVER THE INPUT: true; the input reads as it did. -/
def fnExactDefaultOrderSpec : ChangeSpec := { name := "fnExactDefaultOrder", fn := fun _ => fun
  | [d] => { results := [.lit (.bool true)], args := [d] }
  | _ => none }
def fnExactDefaultOrderRow : OpenClaim := { program := "ytbjbgfeaiepejaa", sum := "d2b14b36a3a75ad167a603b0a0627a200476fffd5506323caccb6223da656cab", func := "loop.example/g01917/laws.FnExactDefaultOrder", spec := "fnExactDefaultOrder", apart := false }
def FnExactDefaultOrderSaid : Prop := fnExactDefaultOrderRow.holds Try.pinned (OpenSpec.ofChange fnExactDefaultOrderSpec)

/-- ITS FALSE NEIGHBOUR: 'it returns false'. Refute it at one input. -/
def fnExactDefaultOrderWrong : ChangeSpec := { name := "fnExactDefaultOrder", fn := fun _ => fun
  | [d] => { results := [.lit (.bool false)], args := [d] }
  | _ => none }
def FnExactDefaultOrderWrongFalsely : Prop := fnExactDefaultOrderRow.holds Try.pinned (OpenSpec.ofChange fnExactDefaultOrderWrong)

/-- 'laws.FnExactAtomsWithVariable': WHATEVER THE INPUT: true; the input reads as it did. -/
def fnExactAtomsWithVariableSpec : ChangeSpec := { name := "fnExactAtomsWithVariable", fn := fun _ => fun
  | [d1, d2] => { results := [.lit (.bool true)], args := [d1, d2] }
  | _ => none }
def fnExactAtomsWithVariableRow : OpenClaim := { program := "ytbjbgfeaiepejaa", sum := "d2b14b36a3a75ad167a603b0a0627a200476fffd5506323caccb6223da656cab", func := "loop.example/g01917/laws.FnExactAtomsWithVariable", spec := "fnExactAtomsWithVariable", apart := false }
def FnExactAtomsWithVariableSaid : Prop := fnExactAtomsWithVariableRow.holds Try.pinned (OpenSpec.ofChange fnExactAtomsWithVariableSpec)

/-- ITS FALSE NEIGHBOUR: 'it returns false'. Refute it at one input. -/
def fnExactAtomsWithVariableWrong : ChangeSpec := { name := "fnExactAtomsWithVariable", fn := fun _ => fun
  | [d1, d2] => { results := [.lit (.bool false)], args := [d1, d2] }
  | _ => none }
def FnExactAtomsWithVariableWrongFalsely : Prop := fnExactAtomsWithVariableRow.holds Try.pinned (OpenSpec.ofChange fnExactAtomsWithVariableWrong)

/-- 'laws.FnExactPrivateVariables': WHATEVER THE INPUT: true; the input reads as it did. -/
def fnExactPrivateVariablesSpec : ChangeSpec := { name := "fnExactPrivateVariables", fn := fun _ => fun
  | [d1, d2] => { results := [.lit (.bool true)], args := [d1, d2] }
  | _ => none }
def fnExactPrivateVariablesRow : OpenClaim := { program := "ytbjbgfeaiepejaa", sum := "d2b14b36a3a75ad167a603b0a0627a200476fffd5506323caccb6223da656cab", func := "loop.example/g01917/laws.FnExactPrivateVariables", spec := "fnExactPrivateVariables", apart := false }
def FnExactPrivateVariablesSaid : Prop := fnExactPrivateVariablesRow.holds Try.pinned (OpenSpec.ofChange fnExactPrivateVariablesSpec)

/-- ITS FALSE NEIGHBOUR: 'it returns false'. Refute it at one input. -/
def fnExactPrivateVariablesWrong : ChangeSpec := { name := "fnExactPrivateVariables", fn := fun _ => fun
  | [d1, d2] => { results := [.lit (.bool false)], args := [d1, d2] }
  | _ => none }
def FnExactPrivateVariablesWrongFalsely : Prop := fnExactPrivateVariablesRow.holds Try.pinned (OpenSpec.ofChange fnExactPrivateVariablesWrong)

/- THE SECOND FORM. 'bulk': how many values and letters a reading holds, each counted each time it is reached (what is shared counts as often as it is met; a slice's spare places count too). A statement '..UptoSaid' is the law's where the arguments, and the package variables that the reading takes, are together of bulk at most 1048576: NARROWER than '..Said'. Prove '..Said' where nothing that the law and all that it calls make is longer than what came in: it says more and counts as full. Else prove '..UptoSaid'. A law counts once. -/
mutual
def uptoBulk {H : Type} : DataW H → Nat
  | .lit (.string bytes) => bytes.length + 1
  | .lit _ => 1
  | .nil => 1
  | .ptr d => uptoBulk d + 1
  | .slice elems spare => uptoBulkAll elems + uptoBulkAll spare + 1
  | .agg parts => uptoBulkAll parts + 1
  | .iface _ d => uptoBulk d + 1
  | .map entries => uptoBulkEntries entries + 1
  | .held _ => 1
def uptoBulkAll {H : Type} : List (DataW H) → Nat
  | [] => 0
  | d :: r => uptoBulk d + uptoBulkAll r
def uptoBulkEntries {H : Type} : List (Lit × DataW H) → Nat
  | [] => 0
  | x :: r => uptoBulkEntry x + uptoBulkEntries r
def uptoBulkEntry {H : Type} : Lit × DataW H → Nat
  | (.string bytes, d) => bytes.length + uptoBulk d + 1
  | (_, d) => uptoBulk d + 1
 end
def uptoSmall : (H : Type) → List (DataW H) → Bool := fun _ ds => decide (uptoBulkAll ds ≤ 1048576)
def OpenSpec.upto (s : _root_.Go.ChangeSpec) : _root_.Go.OpenSpec := { _root_.Go.OpenSpec.ofChange s with cond := some uptoSmall }

/-- 'laws.FnExactColumnsForOrder', WHERE WHAT IT READS IS OF BULK AT MOST 1048576: true; the input reads as it did. -/
def fnExactColumnsForOrderUptoRow : OpenClaim := { program := "ytbjbgfeaiepejaa", sum := "d2b14b36a3a75ad167a603b0a0627a200476fffd5506323caccb6223da656cab", func := "loop.example/g01917/laws.FnExactColumnsForOrder", spec := "fnExactColumnsForOrder", apart := false, narrowed := true }
def FnExactColumnsForOrderUptoSaid : Prop := fnExactColumnsForOrderUptoRow.holds Try.pinned (OpenSpec.upto fnExactColumnsForOrderSpec)

/-- 'laws.FnExactIsValidOrder', WHERE WHAT IT READS IS OF BULK AT MOST 1048576: true; the input reads as it did. -/
def fnExactIsValidOrderUptoRow : OpenClaim := { program := "ytbjbgfeaiepejaa", sum := "d2b14b36a3a75ad167a603b0a0627a200476fffd5506323caccb6223da656cab", func := "loop.example/g01917/laws.FnExactIsValidOrder", spec := "fnExactIsValidOrder", apart := false, narrowed := true }
def FnExactIsValidOrderUptoSaid : Prop := fnExactIsValidOrderUptoRow.holds Try.pinned (OpenSpec.upto fnExactIsValidOrderSpec)

/-- 'laws.FnExactVariableDegree', WHERE WHAT IT READS IS OF BULK AT MOST 1048576: true; the input reads as it did. -/
def fnExactVariableDegreeUptoRow : OpenClaim := { program := "ytbjbgfeaiepejaa", sum := "d2b14b36a3a75ad167a603b0a0627a200476fffd5506323caccb6223da656cab", func := "loop.example/g01917/laws.FnExactVariableDegree", spec := "fnExactVariableDegree", apart := false, narrowed := true }
def FnExactVariableDegreeUptoSaid : Prop := fnExactVariableDegreeUptoRow.holds Try.pinned (OpenSpec.upto fnExactVariableDegreeSpec)

/-- 'laws.FnExactDefaultOrder', WHERE WHAT IT READS IS OF BULK AT MOST 1048576: true; the input reads as it did. -/
def fnExactDefaultOrderUptoRow : OpenClaim := { program := "ytbjbgfeaiepejaa", sum := "d2b14b36a3a75ad167a603b0a0627a200476fffd5506323caccb6223da656cab", func := "loop.example/g01917/laws.FnExactDefaultOrder", spec := "fnExactDefaultOrder", apart := false, narrowed := true }
def FnExactDefaultOrderUptoSaid : Prop := fnExactDefaultOrderUptoRow.holds Try.pinned (OpenSpec.upto fnExactDefaultOrderSpec)

/-- 'laws.FnExactAtomsWithVariable', WHERE WHAT IT READS IS OF BULK AT MOST 1048576: true; the input reads as it did. -/
def fnExactAtomsWithVariableUptoRow : OpenClaim := { program := "ytbjbgfeaiepejaa", sum := "d2b14b36a3a75ad167a603b0a0627a200476fffd5506323caccb6223da656cab", func := "loop.example/g01917/laws.FnExactAtomsWithVariable", spec := "fnExactAtomsWithVariable", apart := false, narrowed := true }
def FnExactAtomsWithVariableUptoSaid : Prop := fnExactAtomsWithVariableUptoRow.holds Try.pinned (OpenSpec.upto fnExactAtomsWithVariableSpec)

/-- 'laws.FnExactPrivateVariables', WHERE WHAT IT READS IS OF BULK AT MOST 1048576: true; the input reads as it did. -/
def fnExactPrivateVariablesUptoRow : OpenClaim := { program := "ytbjbgfeaiepejaa", sum := "d2b14b36a3a75ad167a603b0a0627a200476fffd5506323caccb6223da656cab", func := "loop.example/g01917/laws.FnExactPrivateVariables", spec := "fnExactPrivateVariables", apart := false, narrowed := true }
def FnExactPrivateVariablesUptoSaid : Prop := fnExactPrivateVariablesUptoRow.holds Try.pinned (OpenSpec.upto fnExactPrivateVariablesSpec)

end Rows
end Go.Proofs.Ytbjbgfeaiepejaa
