/-
  No cell of these rows narrows 'for every input' (looked for: loops, veiled, ifaces, maps, wideKeys, modest, calm, conditions, laid).
  DERIVED. THE GIVEN ROWS OF THIS SEAT. 5 by the template 'for every input the law returns true; each argument reads behind the call as it read before'; 0 by the template 'total and deterministic' (their statements: YthebeimejhomjaaTotals.lean).
  GIVEN WITH THE SEED: the statements are not yours to turn. If you find one false, say at which input.
  Laid BY PROGRAM, IN A SANDBOX (cutbox-rows.mjs): the forced cells as the released guide's own fill.sh prints them over the translation abc24e4a86e7f9df… (all of the seat's roots in one cut). By AI agents, Wed Nov 11 2026. No macro, syntax, notation, axiom, sorry.
-/
import Derived.Test.YthebeimejhomjaaChecked
import GoSem.Claim
import GoSem.ClaimJoined
import GoSem.ClaimMapViews
import Derived.JoinedTies
import Derived.KernelRfl
namespace Go.Proofs.Ythebeimejhomjaa
/- THE CELL 'sum', in the pinned program and in every row, IS THE sha256 OF THE DUMP (.gsa) THAT YthebeimejhomjaaProg.lean LOADS. Nothing in Lean hashes anything: it is a label: what it is worth is what the hold of that sum in a sandbox is worth. -/
noncomputable def Try.pinned : Pinned := { name := "ythebeimejhomjaa", sum := "abc24e4a86e7f9dfb3b45d0cb8a33276ba20055cf177508a436094aa57b433ef", checked := Try.checked }
namespace Rows
def none {H : Type} : Left H := { results := [], args := [] }

/-- 'laws.FnExactIteratorPath': WHATEVER THE INPUT: true; the input reads as it did. -/
def fnExactIteratorPathSpec : ChangeSpec := { name := "fnExactIteratorPath", fn := fun _ => fun
  | [d] => { results := [.lit (.bool true)], args := [d] }
  | _ => none }
def fnExactIteratorPathRow : OpenClaim := { program := "ythebeimejhomjaa", sum := "abc24e4a86e7f9dfb3b45d0cb8a33276ba20055cf177508a436094aa57b433ef", func := "loop.example/g01917/laws.FnExactIteratorPath", spec := "fnExactIteratorPath", apart := false }
def FnExactIteratorPathSaid : Prop := fnExactIteratorPathRow.holds Try.pinned (OpenSpec.ofChange fnExactIteratorPathSpec)

/-- ITS FALSE NEIGHBOUR: 'it returns false'. Refute it at one input. -/
def fnExactIteratorPathWrong : ChangeSpec := { name := "fnExactIteratorPath", fn := fun _ => fun
  | [d] => { results := [.lit (.bool false)], args := [d] }
  | _ => none }
def FnExactIteratorPathWrongFalsely : Prop := fnExactIteratorPathRow.holds Try.pinned (OpenSpec.ofChange fnExactIteratorPathWrong)

/-- 'laws.FnExactCloseLevel': WHATEVER THE INPUT: true; the input reads as it did. -/
def fnExactCloseLevelSpec : ChangeSpec := { name := "fnExactCloseLevel", fn := fun _ => fun
  | [d] => { results := [.lit (.bool true)], args := [d] }
  | _ => none }
def fnExactCloseLevelRow : OpenClaim := { program := "ythebeimejhomjaa", sum := "abc24e4a86e7f9dfb3b45d0cb8a33276ba20055cf177508a436094aa57b433ef", func := "loop.example/g01917/laws.FnExactCloseLevel", spec := "fnExactCloseLevel", apart := false }
def FnExactCloseLevelSaid : Prop := fnExactCloseLevelRow.holds Try.pinned (OpenSpec.ofChange fnExactCloseLevelSpec)

/-- ITS FALSE NEIGHBOUR: 'it returns false'. Refute it at one input. -/
def fnExactCloseLevelWrong : ChangeSpec := { name := "fnExactCloseLevel", fn := fun _ => fun
  | [d] => { results := [.lit (.bool false)], args := [d] }
  | _ => none }
def FnExactCloseLevelWrongFalsely : Prop := fnExactCloseLevelRow.holds Try.pinned (OpenSpec.ofChange fnExactCloseLevelWrong)

/-- 'laws.FnExactSeekKey': WHATEVER THE INPUT: true; the input reads as it did. -/
def fnExactSeekKeySpec : ChangeSpec := { name := "fnExactSeekKey", fn := fun _ => fun
  | [d1, d2] => { results := [.lit (.bool true)], args := [d1, d2] }
  | _ => none }
def fnExactSeekKeyRow : OpenClaim := { program := "ythebeimejhomjaa", sum := "abc24e4a86e7f9dfb3b45d0cb8a33276ba20055cf177508a436094aa57b433ef", func := "loop.example/g01917/laws.FnExactSeekKey", spec := "fnExactSeekKey", apart := false }
def FnExactSeekKeySaid : Prop := fnExactSeekKeyRow.holds Try.pinned (OpenSpec.ofChange fnExactSeekKeySpec)

/-- ITS FALSE NEIGHBOUR: 'it returns false'. Refute it at one input. -/
def fnExactSeekKeyWrong : ChangeSpec := { name := "fnExactSeekKey", fn := fun _ => fun
  | [d1, d2] => { results := [.lit (.bool false)], args := [d1, d2] }
  | _ => none }
def FnExactSeekKeyWrongFalsely : Prop := fnExactSeekKeyRow.holds Try.pinned (OpenSpec.ofChange fnExactSeekKeyWrong)

/-- 'laws.FnExactNextKey': WHATEVER THE INPUT: true; the input reads as it did. -/
def fnExactNextKeySpec : ChangeSpec := { name := "fnExactNextKey", fn := fun _ => fun
  | [d] => { results := [.lit (.bool true)], args := [d] }
  | _ => none }
def fnExactNextKeyRow : OpenClaim := { program := "ythebeimejhomjaa", sum := "abc24e4a86e7f9dfb3b45d0cb8a33276ba20055cf177508a436094aa57b433ef", func := "loop.example/g01917/laws.FnExactNextKey", spec := "fnExactNextKey", apart := false }
def FnExactNextKeySaid : Prop := fnExactNextKeyRow.holds Try.pinned (OpenSpec.ofChange fnExactNextKeySpec)

/-- ITS FALSE NEIGHBOUR: 'it returns false'. Refute it at one input. -/
def fnExactNextKeyWrong : ChangeSpec := { name := "fnExactNextKey", fn := fun _ => fun
  | [d] => { results := [.lit (.bool false)], args := [d] }
  | _ => none }
def FnExactNextKeyWrongFalsely : Prop := fnExactNextKeyRow.holds Try.pinned (OpenSpec.ofChange fnExactNextKeyWrong)

/-- 'laws.FnExactOpenIterator': WHATEVER THE INPUT: true; the input reads as it did. -/
def fnExactOpenIteratorSpec : ChangeSpec := { name := "fnExactOpenIterator", fn := fun _ => fun
  | [d] => { results := [.lit (.bool true)], args := [d] }
  | _ => none }
def fnExactOpenIteratorRow : OpenClaim := { program := "ythebeimejhomjaa", sum := "abc24e4a86e7f9dfb3b45d0cb8a33276ba20055cf177508a436094aa57b433ef", func := "loop.example/g01917/laws.FnExactOpenIterator", spec := "fnExactOpenIterator", apart := false }
def FnExactOpenIteratorSaid : Prop := fnExactOpenIteratorRow.holds Try.pinned (OpenSpec.ofChange fnExactOpenIteratorSpec)

/-- ITS FALSE NEIGHBOUR: 'it returns false'. Refute it at one input. -/
def fnExactOpenIteratorWrong : ChangeSpec := { name := "fnExactOpenIterator", fn := fun _ => fun
  | [d] => { results := [.lit (.bool false)], args := [d] }
  | _ => none }
def FnExactOpenIteratorWrongFalsely : Prop := fnExactOpenIteratorRow.holds Try.pinned (OpenSpec.ofChange fnExactOpenIteratorWrong)

/- THE SECOND FORM. 'bulk': how many values and letters a reading holds, each counted each time it is reached (what is shared counts as often as it is met; a slice's spare places count too). A statement '..UptoSaid' is the law's where the arguments, and the package variables that the reading takes, are together of bulk at most 1048576: NARROWER than '..Said'. Prove '..Said' where nothing that the law and all that it calls make is longer than what came in: it says more and counts as full. Else prove '..UptoSaid'. A law counts once. -/
mutual
def uptoBulk {H : Type} : DataW H → Nat
  | .lit (.string bytes) => bytes.length + 1
  | .lit _ => 1
  | .nil => 1
  | .ptr d => uptoBulk d + 1
  | .slice elems spare => uptoBulkAll elems + uptoBulkAll spare + 1
  | .agg parts => uptoBulkAll parts + 1
  | .iface _ d => uptoBulk d + 1
  | .map entries => uptoBulkEntries entries + 1
  | .held _ => 1
def uptoBulkAll {H : Type} : List (DataW H) → Nat
  | [] => 0
  | d :: r => uptoBulk d + uptoBulkAll r
def uptoBulkEntries {H : Type} : List (Lit × DataW H) → Nat
  | [] => 0
  | x :: r => uptoBulkEntry x + uptoBulkEntries r
def uptoBulkEntry {H : Type} : Lit × DataW H → Nat
  | (.string bytes, d) => bytes.length + uptoBulk d + 1
  | (_, d) => uptoBulk d + 1
 end
def uptoSmall : (H : Type) → List (DataW H) → Bool := fun _ ds => decide (uptoBulkAll ds ≤ 1048576)
def OpenSpec.upto (s : _root_.Go.ChangeSpec) : _root_.Go.OpenSpec := { _root_.Go.OpenSpec.ofChange s with cond := some uptoSmall }

/-- 'laws.FnExactIteratorPath', WHERE WHAT IT READS IS OF BULK AT MOST 1048576: true; the input reads as it did. -/
def fnExactIteratorPathUptoRow : OpenClaim := { program := "ythebeimejhomjaa", sum := "abc24e4a86e7f9dfb3b45d0cb8a33276ba20055cf177508a436094aa57b433ef", func := "loop.example/g01917/laws.FnExactIteratorPath", spec := "fnExactIteratorPath", apart := false, narrowed := true }
def FnExactIteratorPathUptoSaid : Prop := fnExactIteratorPathUptoRow.holds Try.pinned (OpenSpec.upto fnExactIteratorPathSpec)

/-- 'laws.FnExactCloseLevel', WHERE WHAT IT READS IS OF BULK AT MOST 1048576: true; the input reads as it did. -/
def fnExactCloseLevelUptoRow : OpenClaim := { program := "ythebeimejhomjaa", sum := "abc24e4a86e7f9dfb3b45d0cb8a33276ba20055cf177508a436094aa57b433ef", func := "loop.example/g01917/laws.FnExactCloseLevel", spec := "fnExactCloseLevel", apart := false, narrowed := true }
def FnExactCloseLevelUptoSaid : Prop := fnExactCloseLevelUptoRow.holds Try.pinned (OpenSpec.upto fnExactCloseLevelSpec)

/-- 'laws.FnExactSeekKey', WHERE WHAT IT READS IS OF BULK AT MOST 1048576: true; the input reads as it did. -/
def fnExactSeekKeyUptoRow : OpenClaim := { program := "ythebeimejhomjaa", sum := "abc24e4a86e7f9dfb3b45d0cb8a33276ba20055cf177508a436094aa57b433ef", func := "loop.example/g01917/laws.FnExactSeekKey", spec := "fnExactSeekKey", apart := false, narrowed := true }
def FnExactSeekKeyUptoSaid : Prop := fnExactSeekKeyUptoRow.holds Try.pinned (OpenSpec.upto fnExactSeekKeySpec)

/-- 'laws.FnExactNextKey', WHERE WHAT IT READS IS OF BULK AT MOST 1048576: true; the input reads as it did. -/
def fnExactNextKeyUptoRow : OpenClaim := { program := "ythebeimejhomjaa", sum := "abc24e4a86e7f9dfb3b45d0cb8a33276ba20055cf177508a436094aa57b433ef", func := "loop.example/g01917/laws.FnExactNextKey", spec := "fnExactNextKey", apart := false, narrowed := true }
def FnExactNextKeyUptoSaid : Prop := fnExactNextKeyUptoRow.holds Try.pinned (OpenSpec.upto fnExactNextKeySpec)

/-- 'laws.FnExactOpenIterator', WHERE WHAT IT READS IS OF BULK AT MOST 1048576: true; the input reads as it did. -/
def fnExactOpenIteratorUptoRow : OpenClaim := { program := "ythebeimejhomjaa", sum := "abc24e4a86e7f9dfb3b45d0cb8a33276ba20055cf177508a436094aa57b433ef", func := "loop.example/g01917/laws.FnExactOpenIterator", spec := "fnExactOpenIterator", apart := false, narrowed := true }
def FnExactOpenIteratorUptoSaid : Prop := fnExactOpenIteratorUptoRow.holds Try.pinned (OpenSpec.upto fnExactOpenIteratorSpec)

end Rows
end Go.Proofs.Ythebeimejhomjaa
