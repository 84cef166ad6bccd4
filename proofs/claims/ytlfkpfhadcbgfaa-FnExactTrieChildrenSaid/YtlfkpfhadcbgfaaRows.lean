/-
  No cell of these rows narrows 'for every input' (looked for: loops, veiled, ifaces, maps, wideKeys, modest, calm, conditions, laid).
  DERIVED. THE GIVEN ROWS OF THIS SEAT. 5 by the template 'for every input the law returns true; each argument reads behind the call as it read before'; 0 by the template 'total and deterministic' (their statements: YtlfkpfhadcbgfaaTotals.lean).
  GIVEN WITH THE SEED: the statements are not yours to turn. If you find one false, say at which input.
  Laid BY PROGRAM, IN A SANDBOX (cutbox-rows.mjs): the forced cells as the released guide's own fill.sh prints them over the translation f09f9970b5f2f140… (all of the seat's roots in one cut). By AI agents, Wed Nov 11 2026. No macro, syntax, notation, axiom, sorry.
-/
import Derived.Test.YtlfkpfhadcbgfaaChecked
import GoSem.Claim
import GoSem.ClaimJoined
import GoSem.ClaimMapViews
import Derived.JoinedTies
import Derived.KernelRfl
namespace Go.Proofs.Ytlfkpfhadcbgfaa
/- THE CELL 'sum', in the pinned program and in every row, IS THE sha256 OF THE DUMP (.gsa) THAT YtlfkpfhadcbgfaaProg.lean LOADS. Nothing in Lean hashes anything: it is a label: what it is worth is what the hold of that sum in a sandbox is worth. -/
noncomputable def Try.pinned : Pinned := { name := "ytlfkpfhadcbgfaa", sum := "f09f9970b5f2f1401d95fc929911681056b20c2adb9ba623362b56e36bb874cf", checked := Try.checked }
namespace Rows
def none {H : Type} : Left H := { results := [], args := [] }

/-- 'laws.FnExactIsPermutation': WHATEVER THE INPUT: true; the input reads as it did. -/
def fnExactIsPermutationSpec : ChangeSpec := { name := "fnExactIsPermutation", fn := fun _ => fun
  | [d] => { results := [.lit (.bool true)], args := [d] }
  | _ => none }
def fnExactIsPermutationRow : OpenClaim := { program := "ytlfkpfhadcbgfaa", sum := "f09f9970b5f2f1401d95fc929911681056b20c2adb9ba623362b56e36bb874cf", func := "loop.example/g01917/laws.FnExactIsPermutation", spec := "fnExactIsPermutation", apart := false }
def FnExactIsPermutationSaid : Prop := fnExactIsPermutationRow.holds Try.pinned (OpenSpec.ofChange fnExactIsPermutationSpec)

/-- ITS FALSE NEIGHBOUR: 'it returns false'. Refute it at one input. -/
def fnExactIsPermutationWrong : ChangeSpec := { name := "fnExactIsPermutation", fn := fun _ => fun
  | [d] => { results := [.lit (.bool false)], args := [d] }
  | _ => none }
def FnExactIsPermutationWrongFalsely : Prop := fnExactIsPermutationRow.holds Try.pinned (OpenSpec.ofChange fnExactIsPermutationWrong)

/-- 'laws.FnExactIsValidTrie': WHATEVER THE INPUT: true; the input reads as it did. -/
def fnExactIsValidTrieSpec : ChangeSpec := { name := "fnExactIsValidTrie", fn := fun _ => fun
  | [d] => { results := [.lit (.bool true)], args := [d] }
  | _ => none }
def fnExactIsValidTrieRow : OpenClaim := { program := "ytlfkpfhadcbgfaa", sum := "f09f9970b5f2f1401d95fc929911681056b20c2adb9ba623362b56e36bb874cf", func := "loop.example/g01917/laws.FnExactIsValidTrie", spec := "fnExactIsValidTrie", apart := false }
def FnExactIsValidTrieSaid : Prop := fnExactIsValidTrieRow.holds Try.pinned (OpenSpec.ofChange fnExactIsValidTrieSpec)

/-- ITS FALSE NEIGHBOUR: 'it returns false'. Refute it at one input. -/
def fnExactIsValidTrieWrong : ChangeSpec := { name := "fnExactIsValidTrie", fn := fun _ => fun
  | [d] => { results := [.lit (.bool false)], args := [d] }
  | _ => none }
def FnExactIsValidTrieWrongFalsely : Prop := fnExactIsValidTrieRow.holds Try.pinned (OpenSpec.ofChange fnExactIsValidTrieWrong)

/-- 'laws.FnExactTriePrefixRange': WHATEVER THE INPUT: true; the input reads as it did. -/
def fnExactTriePrefixRangeSpec : ChangeSpec := { name := "fnExactTriePrefixRange", fn := fun _ => fun
  | [d1, d2] => { results := [.lit (.bool true)], args := [d1, d2] }
  | _ => none }
def fnExactTriePrefixRangeRow : OpenClaim := { program := "ytlfkpfhadcbgfaa", sum := "f09f9970b5f2f1401d95fc929911681056b20c2adb9ba623362b56e36bb874cf", func := "loop.example/g01917/laws.FnExactTriePrefixRange", spec := "fnExactTriePrefixRange", apart := false }
def FnExactTriePrefixRangeSaid : Prop := fnExactTriePrefixRangeRow.holds Try.pinned (OpenSpec.ofChange fnExactTriePrefixRangeSpec)

/-- ITS FALSE NEIGHBOUR: 'it returns false'. Refute it at one input. -/
def fnExactTriePrefixRangeWrong : ChangeSpec := { name := "fnExactTriePrefixRange", fn := fun _ => fun
  | [d1, d2] => { results := [.lit (.bool false)], args := [d1, d2] }
  | _ => none }
def FnExactTriePrefixRangeWrongFalsely : Prop := fnExactTriePrefixRangeRow.holds Try.pinned (OpenSpec.ofChange fnExactTriePrefixRangeWrong)

/-- 'laws.FnExactTriePrefixCount': WHATEVER THE INPUT: true; the input reads as it did. -/
def fnExactTriePrefixCountSpec : ChangeSpec := { name := "fnExactTriePrefixCount", fn := fun _ => fun
  | [d1, d2] => { results := [.lit (.bool true)], args := [d1, d2] }
  | _ => none }
def fnExactTriePrefixCountRow : OpenClaim := { program := "ytlfkpfhadcbgfaa", sum := "f09f9970b5f2f1401d95fc929911681056b20c2adb9ba623362b56e36bb874cf", func := "loop.example/g01917/laws.FnExactTriePrefixCount", spec := "fnExactTriePrefixCount", apart := false }
def FnExactTriePrefixCountSaid : Prop := fnExactTriePrefixCountRow.holds Try.pinned (OpenSpec.ofChange fnExactTriePrefixCountSpec)

/-- ITS FALSE NEIGHBOUR: 'it returns false'. Refute it at one input. -/
def fnExactTriePrefixCountWrong : ChangeSpec := { name := "fnExactTriePrefixCount", fn := fun _ => fun
  | [d1, d2] => { results := [.lit (.bool false)], args := [d1, d2] }
  | _ => none }
def FnExactTriePrefixCountWrongFalsely : Prop := fnExactTriePrefixCountRow.holds Try.pinned (OpenSpec.ofChange fnExactTriePrefixCountWrong)

/-- 'laws.FnExactTrieChildren': WHATEVER THE INPUT: true; the input reads as it did. -/
def fnExactTrieChildrenSpec : ChangeSpec := { name := "fnExactTrieChildren", fn := fun _ => fun
  | [d1, d2] => { results := [.lit (.bool true)], args := [d1, d2] }
  | _ => none }
def fnExactTrieChildrenRow : OpenClaim := { program := "ytlfkpfhadcbgfaa", sum := "f09f9970b5f2f1401d95fc929911681056b20c2adb9ba623362b56e36bb874cf", func := "loop.example/g01917/laws.FnExactTrieChildren", spec := "fnExactTrieChildren", apart := false }
def FnExactTrieChildrenSaid : Prop := fnExactTrieChildrenRow.holds Try.pinned (OpenSpec.ofChange fnExactTrieChildrenSpec)

/-- ITS FALSE NEIGHBOUR: 'it returns false'. Refute it at one input. -/
def fnExactTrieChildrenWrong : ChangeSpec := { name := "fnExactTrieChildren", fn := fun _ => fun
  | [d1, d2] => { results := [.lit (.bool false)], args := [d1, d2] }
  | _ => none }
def FnExactTrieChildrenWrongFalsely : Prop := fnExactTrieChildrenRow.holds Try.pinned (OpenSpec.ofChange fnExactTrieChildrenWrong)

/- THE SECOND FORM. 'bulk': how many values and letters a reading holds, each counted each time it is reached (what is shared counts as often as it is met; a slice's spare places count too). A statement '..UptoSaid' is the law's where the arguments, and the package variables that the reading takes, are together of bulk at most 1048576: NARROWER than '..Said'. Prove '..Said' where nothing that the law and all that it calls make is longer than what came in: it says more and counts as full. Else prove '..UptoSaid'. A law counts once. -/
mutual
def uptoBulk {H : Type} : DataW H → Nat
  | .lit (.string bytes) => bytes.length + 1
  | .lit _ => 1
  | .nil => 1
  | .ptr d => uptoBulk d + 1
  | .slice elems spare => uptoBulkAll elems + uptoBulkAll spare + 1
  | .agg parts => uptoBulkAll parts + 1
  | .iface _ d => uptoBulk d + 1
  | .map entries => uptoBulkEntries entries + 1
  | .held _ => 1
def uptoBulkAll {H : Type} : List (DataW H) → Nat
  | [] => 0
  | d :: r => uptoBulk d + uptoBulkAll r
def uptoBulkEntries {H : Type} : List (Lit × DataW H) → Nat
  | [] => 0
  | x :: r => uptoBulkEntry x + uptoBulkEntries r
def uptoBulkEntry {H : Type} : Lit × DataW H → Nat
  | (.string bytes, d) => bytes.length + uptoBulk d + 1
  | (_, d) => uptoBulk d + 1
 end
def uptoSmall : (H : Type) → List (DataW H) → Bool := fun _ ds => decide (uptoBulkAll ds ≤ 1048576)
def OpenSpec.upto (s : _root_.Go.ChangeSpec) : _root_.Go.OpenSpec := { _root_.Go.OpenSpec.ofChange s with cond := some uptoSmall }

/-- 'laws.FnExactIsPermutation', WHERE WHAT IT READS IS OF BULK AT MOST 1048576: true; the input reads as it did. -/
def fnExactIsPermutationUptoRow : OpenClaim := { program := "ytlfkpfhadcbgfaa", sum := "f09f9970b5f2f1401d95fc929911681056b20c2adb9ba623362b56e36bb874cf", func := "loop.example/g01917/laws.FnExactIsPermutation", spec := "fnExactIsPermutation", apart := false, narrowed := true }
def FnExactIsPermutationUptoSaid : Prop := fnExactIsPermutationUptoRow.holds Try.pinned (OpenSpec.upto fnExactIsPermutationSpec)

/-- 'laws.FnExactIsValidTrie', WHERE WHAT IT READS IS OF BULK AT MOST 1048576: true; the input reads as it did. -/
def fnExactIsValidTrieUptoRow : OpenClaim := { program := "ytlfkpfhadcbgfaa", sum := "f09f9970b5f2f1401d95fc929911681056b20c2adb9ba623362b56e36bb874cf", func := "loop.example/g01917/laws.FnExactIsValidTrie", spec := "fnExactIsValidTrie", apart := false, narrowed := true }
def FnExactIsValidTrieUptoSaid : Prop := fnExactIsValidTrieUptoRow.holds Try.pinned (OpenSpec.upto fnExactIsValidTrieSpec)

/-- 'laws.FnExactTriePrefixRange', WHERE WHAT IT READS IS OF BULK AT MOST 1048576: true; the input reads as it did. -/
def fnExactTriePrefixRangeUptoRow : OpenClaim := { program := "ytlfkpfhadcbgfaa", sum := "f09f9970b5f2f1401d95fc929911681056b20c2adb9ba623362b56e36bb874cf", func := "loop.example/g01917/laws.FnExactTriePrefixRange", spec := "fnExactTriePrefixRange", apart := false, narrowed := true }
def FnExactTriePrefixRangeUptoSaid : Prop := fnExactTriePrefixRangeUptoRow.holds Try.pinned (OpenSpec.upto fnExactTriePrefixRangeSpec)

/-- 'laws.FnExactTriePrefixCount', WHERE WHAT IT READS IS OF BULK AT MOST 1048576: true; the input reads as it did. -/
def fnExactTriePrefixCountUptoRow : OpenClaim := { program := "ytlfkpfhadcbgfaa", sum := "f09f9970b5f2f1401d95fc929911681056b20c2adb9ba623362b56e36bb874cf", func := "loop.example/g01917/laws.FnExactTriePrefixCount", spec := "fnExactTriePrefixCount", apart := false, narrowed := true }
def FnExactTriePrefixCountUptoSaid : Prop := fnExactTriePrefixCountUptoRow.holds Try.pinned (OpenSpec.upto fnExactTriePrefixCountSpec)

/-- 'laws.FnExactTrieChildren', WHERE WHAT IT READS IS OF BULK AT MOST 1048576: true; the input reads as it did. -/
def fnExactTrieChildrenUptoRow : OpenClaim := { program := "ytlfkpfhadcbgfaa", sum := "f09f9970b5f2f1401d95fc929911681056b20c2adb9ba623362b56e36bb874cf", func := "loop.example/g01917/laws.FnExactTrieChildren", spec := "fnExactTrieChildren", apart := false, narrowed := true }
def FnExactTrieChildrenUptoSaid : Prop := fnExactTrieChildrenUptoRow.holds Try.pinned (OpenSpec.upto fnExactTrieChildrenSpec)

end Rows
end Go.Proofs.Ytlfkpfhadcbgfaa
