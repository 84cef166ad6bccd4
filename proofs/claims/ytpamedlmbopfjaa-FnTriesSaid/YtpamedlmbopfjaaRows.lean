/-
  No cell of these rows narrows 'for every input' (looked for: loops, veiled, ifaces, maps, wideKeys, modest, calm, conditions, laid).
  DERIVED. THE GIVEN ROWS OF THIS SEAT. 2 by the template 'for every input the law returns true; each argument reads behind the call as it read before'; 0 by the template 'total and deterministic' (their statements: YtpamedlmbopfjaaTotals.lean).
  GIVEN WITH THE SEED: the statements are not yours to turn. If you find one false, say at which input.
  Laid BY PROGRAM, IN A SANDBOX (cutbox-rows.mjs): the forced cells as the released guide's own fill.sh prints them over the translation 988e2ab3afbd1128… (all of the seat's roots in one cut). By AI agents, Wed Nov 11 2026. No macro, syntax, notation, axiom, sorry.
-/
import Derived.Test.YtpamedlmbopfjaaChecked
import GoSem.Claim
import GoSem.ClaimJoined
import GoSem.ClaimMapViews
import Derived.JoinedTies
import Derived.KernelRfl
namespace Go.Proofs.Ytpamedlmbopfjaa
/- THE CELL 'sum', in the pinned program and in every row, IS THE sha256 OF THE DUMP (.gsa) THAT YtpamedlmbopfjaaProg.lean LOADS. Nothing in Lean hashes anything: it is a label: what it is worth is what the hold of that sum in a sandbox is worth. -/
noncomputable def Try.pinned : Pinned := { name := "ytpamedlmbopfjaa", sum := "988e2ab3afbd112895f11b88c4fa9219ca5e1c681869eca6661aa98ff7a0e6d2", checked := Try.checked }
namespace Rows
def none {H : Type} : Left H := { results := [], args := [] }

/-- 'laws.FnTriePrefixes': WHATEVER THE INPUT: true; the input reads as it did. -/
def fnTriePrefixesSpec : ChangeSpec := { name := "fnTriePrefixes", fn := fun _ => fun
  | [d] => { results := [.lit (.bool true)], args := [d] }
  | _ => none }
def fnTriePrefixesRow : OpenClaim := { program := "ytpamedlmbopfjaa", sum := "988e2ab3afbd112895f11b88c4fa9219ca5e1c681869eca6661aa98ff7a0e6d2", func := "loop.example/g01917/laws.FnTriePrefixes", spec := "fnTriePrefixes", recurses := true, apart := false }
def FnTriePrefixesSaid : Prop := fnTriePrefixesRow.holds Try.pinned (OpenSpec.ofChange fnTriePrefixesSpec)

/-- ITS FALSE NEIGHBOUR: 'it returns false'. Refute it at one input. -/
def fnTriePrefixesWrong : ChangeSpec := { name := "fnTriePrefixes", fn := fun _ => fun
  | [d] => { results := [.lit (.bool false)], args := [d] }
  | _ => none }
def FnTriePrefixesWrongFalsely : Prop := fnTriePrefixesRow.holds Try.pinned (OpenSpec.ofChange fnTriePrefixesWrong)

/-- 'laws.FnTries': WHATEVER THE INPUT: true; the input reads as it did. -/
def fnTriesSpec : ChangeSpec := { name := "fnTries", fn := fun _ => fun
  | [d] => { results := [.lit (.bool true)], args := [d] }
  | _ => none }
def fnTriesRow : OpenClaim := { program := "ytpamedlmbopfjaa", sum := "988e2ab3afbd112895f11b88c4fa9219ca5e1c681869eca6661aa98ff7a0e6d2", func := "loop.example/g01917/laws.FnTries", spec := "fnTries", recurses := true, apart := false }
def FnTriesSaid : Prop := fnTriesRow.holds Try.pinned (OpenSpec.ofChange fnTriesSpec)

/-- ITS FALSE NEIGHBOUR: 'it returns false'. Refute it at one input. -/
def fnTriesWrong : ChangeSpec := { name := "fnTries", fn := fun _ => fun
  | [d] => { results := [.lit (.bool false)], args := [d] }
  | _ => none }
def FnTriesWrongFalsely : Prop := fnTriesRow.holds Try.pinned (OpenSpec.ofChange fnTriesWrong)

/- THE SECOND FORM. 'bulk': how many values and letters a reading holds, each counted each time it is reached (what is shared counts as often as it is met; a slice's spare places count too). A statement '..UptoSaid' is the law's where the arguments, and the package variables that the reading takes, are together of bulk at most 1048576: NARROWER than '..Said'. Prove '..Said' where nothing that the law and all that it calls make is longer than what came in: it says more and counts as full. Else prove '..UptoSaid'. A law counts once. -/
mutual
def uptoBulk {H : Type} : DataW H → Nat
  | .lit (.string bytes) => bytes.length + 1
  | .lit _ => 1
  | .nil => 1
  | .ptr d => uptoBulk d + 1
  | .slice elems spare => uptoBulkAll elems + uptoBulkAll spare + 1
  | .agg parts => uptoBulkAll parts + 1
  | .iface _ d => uptoBulk d + 1
  | .map entries => uptoBulkEntries entries + 1
  | .held _ => 1
def uptoBulkAll {H : Type} : List (DataW H) → Nat
  | [] => 0
  | d :: r => uptoBulk d + uptoBulkAll r
def uptoBulkEntries {H : Type} : List (Lit × DataW H) → Nat
  | [] => 0
  | x :: r => uptoBulkEntry x + uptoBulkEntries r
def uptoBulkEntry {H : Type} : Lit × DataW H → Nat
  | (.string bytes, d) => bytes.length + uptoBulk d + 1
  | (_, d) => uptoBulk d + 1
 end
def uptoSmall : (H : Type) → List (DataW H) → Bool := fun _ ds => decide (uptoBulkAll ds ≤ 1048576)
def OpenSpec.upto (s : _root_.Go.ChangeSpec) : _root_.Go.OpenSpec := { _root_.Go.OpenSpec.ofChange s with cond := some uptoSmall }

/-- 'laws.FnTriePrefixes', WHERE WHAT IT READS IS OF BULK AT MOST 1048576: true; the input reads as it did. -/
def fnTriePrefixesUptoRow : OpenClaim := { program := "ytpamedlmbopfjaa", sum := "988e2ab3afbd112895f11b88c4fa9219ca5e1c681869eca6661aa98ff7a0e6d2", func := "loop.example/g01917/laws.FnTriePrefixes", spec := "fnTriePrefixes", recurses := true, apart := false, narrowed := true }
def FnTriePrefixesUptoSaid : Prop := fnTriePrefixesUptoRow.holds Try.pinned (OpenSpec.upto fnTriePrefixesSpec)

/-- 'laws.FnTries', WHERE WHAT IT READS IS OF BULK AT MOST 1048576: true; the input reads as it did. -/
def fnTriesUptoRow : OpenClaim := { program := "ytpamedlmbopfjaa", sum := "988e2ab3afbd112895f11b88c4fa9219ca5e1c681869eca6661aa98ff7a0e6d2", func := "loop.example/g01917/laws.FnTries", spec := "fnTries", recurses := true, apart := false, narrowed := true }
def FnTriesUptoSaid : Prop := fnTriesUptoRow.holds Try.pinned (OpenSpec.upto fnTriesSpec)

end Rows
end Go.Proofs.Ytpamedlmbopfjaa
