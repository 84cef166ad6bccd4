/-
  No cell of these rows narrows 'for every input' (looked for: loops, veiled, ifaces, maps, wideKeys, modest, calm, conditions, laid).
  DERIVED. THE GIVEN ROWS OF THIS SEAT. 5 by the template 'for every input the law returns true; each argument reads behind the call as it read before'; 0 by the template 'total and deterministic' (their statements: YtbgbohapbdiopaaTotals.lean).
  GIVEN WITH THE SEED: the statements are not yours to turn. If you find one false, say at which input.
  Laid BY PROGRAM, IN A SANDBOX (cutbox-rows.mjs): the forced cells as the released guide's own fill.sh prints them over the translation ec7853f88db0a03b… (all of the seat's roots in one cut). By AI agents, Wed Nov 11 2026. No macro, syntax, notation, axiom, sorry.
-/
import Derived.Test.YtbgbohapbdiopaaChecked
import GoSem.Claim
import GoSem.ClaimJoined
import GoSem.ClaimMapViews
import Derived.JoinedTies
import Derived.KernelRfl
namespace Go.Proofs.Ytbgbohapbdiopaa
/- THE CELL 'sum', in the pinned program and in every row, IS THE sha256 OF THE DUMP (.gsa) THAT YtbgbohapbdiopaaProg.lean LOADS. Nothing in Lean hashes anything: it is a label: what it is worth is what the hold of that sum in a sandbox is worth. -/
noncomputable def Try.pinned : Pinned := { name := "ytbgbohapbdiopaa", sum := "ec7853f88db0a03b94096f742373332352577c002b1009c4856a42a1ff32a3b5", checked := Try.checked }
namespace Rows
def none {H : Type} : Left H := { results := [], args := [] }

/-- 'laws.FnExactEqualIterators': WHATEVER THE INPUT: true; the input reads as it did. -/
def fnExactEqualIteratorsSpec : ChangeSpec := { name := "fnExactEqualIterators", fn := fun _ => fun
  | [d1, d2] => { results := [.lit (.bool true)], args := [d1, d2] }
  | _ => none }
def fnExactEqualIteratorsRow : OpenClaim := { program := "ytbgbohapbdiopaa", sum := "ec7853f88db0a03b94096f742373332352577c002b1009c4856a42a1ff32a3b5", func := "loop.example/g01917/laws.FnExactEqualIterators", spec := "fnExactEqualIterators", apart := false }
def FnExactEqualIteratorsSaid : Prop := fnExactEqualIteratorsRow.holds Try.pinned (OpenSpec.ofChange fnExactEqualIteratorsSpec)

/-- ITS FALSE NEIGHBOUR: 'it returns false'. Refute it at one input. -/
def fnExactEqualIteratorsWrong : ChangeSpec := { name := "fnExactEqualIterators", fn := fun _ => fun
  | [d1, d2] => { results := [.lit (.bool false)], args := [d1, d2] }
  | _ => none }
def FnExactEqualIteratorsWrongFalsely : Prop := fnExactEqualIteratorsRow.holds Try.pinned (OpenSpec.ofChange fnExactEqualIteratorsWrong)

/-- 'laws.FnExactIsValidIterator': WHATEVER THE INPUT: true; the input reads as it did. -/
def fnExactIsValidIteratorSpec : ChangeSpec := { name := "fnExactIsValidIterator", fn := fun _ => fun
  | [d] => { results := [.lit (.bool true)], args := [d] }
  | _ => none }
def fnExactIsValidIteratorRow : OpenClaim := { program := "ytbgbohapbdiopaa", sum := "ec7853f88db0a03b94096f742373332352577c002b1009c4856a42a1ff32a3b5", func := "loop.example/g01917/laws.FnExactIsValidIterator", spec := "fnExactIsValidIterator", apart := false }
def FnExactIsValidIteratorSaid : Prop := fnExactIsValidIteratorRow.holds Try.pinned (OpenSpec.ofChange fnExactIsValidIteratorSpec)

/-- ITS FALSE NEIGHBOUR: 'it returns false'. Refute it at one input. -/
def fnExactIsValidIteratorWrong : ChangeSpec := { name := "fnExactIsValidIterator", fn := fun _ => fun
  | [d] => { results := [.lit (.bool false)], args := [d] }
  | _ => none }
def FnExactIsValidIteratorWrongFalsely : Prop := fnExactIsValidIteratorRow.holds Try.pinned (OpenSpec.ofChange fnExactIsValidIteratorWrong)

/-- 'laws.FnExactAtEnd': WHATEVER THE INPUT: true; the input reads as it did. -/
def fnExactAtEndSpec : ChangeSpec := { name := "fnExactAtEnd", fn := fun _ => fun
  | [d] => { results := [.lit (.bool true)], args := [d] }
  | _ => none }
def fnExactAtEndRow : OpenClaim := { program := "ytbgbohapbdiopaa", sum := "ec7853f88db0a03b94096f742373332352577c002b1009c4856a42a1ff32a3b5", func := "loop.example/g01917/laws.FnExactAtEnd", spec := "fnExactAtEnd", apart := false }
def FnExactAtEndSaid : Prop := fnExactAtEndRow.holds Try.pinned (OpenSpec.ofChange fnExactAtEndSpec)

/-- ITS FALSE NEIGHBOUR: 'it returns false'. Refute it at one input. -/
def fnExactAtEndWrong : ChangeSpec := { name := "fnExactAtEnd", fn := fun _ => fun
  | [d] => { results := [.lit (.bool false)], args := [d] }
  | _ => none }
def FnExactAtEndWrongFalsely : Prop := fnExactAtEndRow.holds Try.pinned (OpenSpec.ofChange fnExactAtEndWrong)

/-- 'laws.FnExactNewIterator': WHATEVER THE INPUT: true; the input reads as it did. -/
def fnExactNewIteratorSpec : ChangeSpec := { name := "fnExactNewIterator", fn := fun _ => fun
  | [d] => { results := [.lit (.bool true)], args := [d] }
  | _ => none }
def fnExactNewIteratorRow : OpenClaim := { program := "ytbgbohapbdiopaa", sum := "ec7853f88db0a03b94096f742373332352577c002b1009c4856a42a1ff32a3b5", func := "loop.example/g01917/laws.FnExactNewIterator", spec := "fnExactNewIterator", apart := false }
def FnExactNewIteratorSaid : Prop := fnExactNewIteratorRow.holds Try.pinned (OpenSpec.ofChange fnExactNewIteratorSpec)

/-- ITS FALSE NEIGHBOUR: 'it returns false'. Refute it at one input. -/
def fnExactNewIteratorWrong : ChangeSpec := { name := "fnExactNewIterator", fn := fun _ => fun
  | [d] => { results := [.lit (.bool false)], args := [d] }
  | _ => none }
def FnExactNewIteratorWrongFalsely : Prop := fnExactNewIteratorRow.holds Try.pinned (OpenSpec.ofChange fnExactNewIteratorWrong)

/-- 'laws.FnExactCurrentKey': WHATEVER THE INPUT: true; the input reads as it did. -/
def fnExactCurrentKeySpec : ChangeSpec := { name := "fnExactCurrentKey", fn := fun _ => fun
  | [d] => { results := [.lit (.bool true)], args := [d] }
  | _ => none }
def fnExactCurrentKeyRow : OpenClaim := { program := "ytbgbohapbdiopaa", sum := "ec7853f88db0a03b94096f742373332352577c002b1009c4856a42a1ff32a3b5", func := "loop.example/g01917/laws.FnExactCurrentKey", spec := "fnExactCurrentKey", apart := false }
def FnExactCurrentKeySaid : Prop := fnExactCurrentKeyRow.holds Try.pinned (OpenSpec.ofChange fnExactCurrentKeySpec)

/-- ITS FALSE NEIGHBOUR: 'it returns false'. Refute it at one input. -/
def fnExactCurrentKeyWrong : ChangeSpec := { name := "fnExactCurrentKey", fn := fun _ => fun
  | [d] => { results := [.lit (.bool false)], args := [d] }
  | _ => none }
def FnExactCurrentKeyWrongFalsely : Prop := fnExactCurrentKeyRow.holds Try.pinned (OpenSpec.ofChange fnExactCurrentKeyWrong)

/- THE SECOND FORM. 'bulk': how many values and letters a reading holds, each counted each time it is reached (what is shared counts as often as it is met; a slice's spare places count too). A statement '..UptoSaid' is the law's where the arguments, and the package variables that the reading takes, are together of bulk at most 1048576: NARROWER than '..Said'. Prove '..Said' where nothing that the law and all that it calls make is longer than what came in: it says more and counts as full. Else prove '..UptoSaid'. A law counts once. -/
mutual
def uptoBulk {H : Type} : DataW H → Nat
  | .lit (.string bytes) => bytes.length + 1
  | .lit _ => 1
  | .nil => 1
  | .ptr d => uptoBulk d + 1
  | .slice elems spare => uptoBulkAll elems + uptoBulkAll spare + 1
  | .agg parts => uptoBulkAll parts + 1
  | .iface _ d => uptoBulk d + 1
  | .map entries => uptoBulkEntries entries + 1
  | .held _ => 1
def uptoBulkAll {H : Type} : List (DataW H) → Nat
  | [] => 0
  | d :: r => uptoBulk d + uptoBulkAll r
def uptoBulkEntries {H : Type} : List (Lit × DataW H) → Nat
  | [] => 0
  | x :: r => uptoBulkEntry x + uptoBulkEntries r
def uptoBulkEntry {H : Type} : Lit × DataW H → Nat
  | (.string bytes, d) => bytes.length + uptoBulk d + 1
  | (_, d) => uptoBulk d + 1
 end
def uptoSmall : (H : Type) → List (DataW H) → Bool := fun _ ds => decide (uptoBulkAll ds ≤ 1048576)
def OpenSpec.upto (s : _root_.Go.ChangeSpec) : _root_.Go.OpenSpec := { _root_.Go.OpenSpec.ofChange s with cond := some uptoSmall }

/-- 'laws.FnExactEqualIterators', WHERE WHAT IT READS IS OF BULK AT MOST 1048576: true; the input reads as it did. -/
def fnExactEqualIteratorsUptoRow : OpenClaim := { program := "ytbgbohapbdiopaa", sum := "ec7853f88db0a03b94096f742373332352577c002b1009c4856a42a1ff32a3b5", func := "loop.example/g01917/laws.FnExactEqualIterators", spec := "fnExactEqualIterators", apart := false, narrowed := true }
def FnExactEqualIteratorsUptoSaid : Prop := fnExactEqualIteratorsUptoRow.holds Try.pinned (OpenSpec.upto fnExactEqualIteratorsSpec)

/-- 'laws.FnExactIsValidIterator', WHERE WHAT IT READS IS OF BULK AT MOST 1048576: true; the input reads as it did. -/
def fnExactIsValidIteratorUptoRow : OpenClaim := { program := "ytbgbohapbdiopaa", sum := "ec7853f88db0a03b94096f742373332352577c002b1009c4856a42a1ff32a3b5", func := "loop.example/g01917/laws.FnExactIsValidIterator", spec := "fnExactIsValidIterator", apart := false, narrowed := true }
def FnExactIsValidIteratorUptoSaid : Prop := fnExactIsValidIteratorUptoRow.holds Try.pinned (OpenSpec.upto fnExactIsValidIteratorSpec)

/-- 'laws.FnExactAtEnd', WHERE WHAT IT READS IS OF BULK AT MOST 1048576: true; the input reads as it did. -/
def fnExactAtEndUptoRow : OpenClaim := { program := "ytbgbohapbdiopaa", sum := "ec7853f88db0a03b94096f742373332352577c002b1009c4856a42a1ff32a3b5", func := "loop.example/g01917/laws.FnExactAtEnd", spec := "fnExactAtEnd", apart := false, narrowed := true }
def FnExactAtEndUptoSaid : Prop := fnExactAtEndUptoRow.holds Try.pinned (OpenSpec.upto fnExactAtEndSpec)

/-- 'laws.FnExactNewIterator', WHERE WHAT IT READS IS OF BULK AT MOST 1048576: true; the input reads as it did. -/
def fnExactNewIteratorUptoRow : OpenClaim := { program := "ytbgbohapbdiopaa", sum := "ec7853f88db0a03b94096f742373332352577c002b1009c4856a42a1ff32a3b5", func := "loop.example/g01917/laws.FnExactNewIterator", spec := "fnExactNewIterator", apart := false, narrowed := true }
def FnExactNewIteratorUptoSaid : Prop := fnExactNewIteratorUptoRow.holds Try.pinned (OpenSpec.upto fnExactNewIteratorSpec)

/-- 'laws.FnExactCurrentKey', WHERE WHAT IT READS IS OF BULK AT MOST 1048576: true; the input reads as it did. -/
def fnExactCurrentKeyUptoRow : OpenClaim := { program := "ytbgbohapbdiopaa", sum := "ec7853f88db0a03b94096f742373332352577c002b1009c4856a42a1ff32a3b5", func := "loop.example/g01917/laws.FnExactCurrentKey", spec := "fnExactCurrentKey", apart := false, narrowed := true }
def FnExactCurrentKeyUptoSaid : Prop := fnExactCurrentKeyUptoRow.holds Try.pinned (OpenSpec.upto fnExactCurrentKeySpec)

end Rows
end Go.Proofs.Ytbgbohapbdiopaa
