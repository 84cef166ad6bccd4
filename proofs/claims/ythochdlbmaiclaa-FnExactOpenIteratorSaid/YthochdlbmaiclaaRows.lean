/-
  No cell of these rows narrows 'for every input' (looked for: loops, veiled, ifaces, maps, wideKeys, modest, calm, conditions, laid).
  DERIVED. THE GIVEN ROWS OF THIS SEAT. 5 by the template 'for every input the law returns true; each argument reads behind the call as it read before'; 0 by the template 'total and deterministic' (their statements: YthochdlbmaiclaaTotals.lean).
  GIVEN WITH THE SEED: the statements are not yours to turn. If you find one false, say at which input.
  Laid BY PROGRAM, IN A SANDBOX (cutbox-rows.mjs): the forced cells as the released guide's own fill.sh prints them over the translation 88f7d8972a09b33e… (all of the seat's roots in one cut). By AI agents, Wed Nov 11 2026. No macro, syntax, notation, axiom, sorry.
-/
import Derived.Test.YthochdlbmaiclaaChecked
import GoSem.Claim
import GoSem.ClaimJoined
import GoSem.ClaimMapViews
import Derived.JoinedTies
import Derived.KernelRfl
namespace Go.Proofs.Ythochdlbmaiclaa
/- THE CELL 'sum', in the pinned program and in every row, IS THE sha256 OF THE DUMP (.gsa) THAT YthochdlbmaiclaaProg.lean LOADS. Nothing in Lean hashes anything: it is a label: what it is worth is what the hold of that sum in a sandbox is worth. -/
noncomputable def Try.pinned : Pinned := { name := "ythochdlbmaiclaa", sum := "88f7d8972a09b33e9c2b31655912ca2601138c650938810c35060132051b87f6", checked := Try.checked }
namespace Rows
def none {H : Type} : Left H := { results := [], args := [] }

/-- 'laws.FnExactNewIterator': WHATEVER THE INPUT: true; the input reads as it did. -/
def fnExactNewIteratorSpec : ChangeSpec := { name := "fnExactNewIterator", fn := fun _ => fun
  | [d] => { results := [.lit (.bool true)], args := [d] }
  | _ => none }
def fnExactNewIteratorRow : OpenClaim := { program := "ythochdlbmaiclaa", sum := "88f7d8972a09b33e9c2b31655912ca2601138c650938810c35060132051b87f6", func := "loop.example/g01917/laws.FnExactNewIterator", spec := "fnExactNewIterator", apart := false }
def FnExactNewIteratorSaid : Prop := fnExactNewIteratorRow.holds Try.pinned (OpenSpec.ofChange fnExactNewIteratorSpec)

/-- ITS FALSE NEIGHBOUR: 'it returns false'. Refute it at one input. -/
def fnExactNewIteratorWrong : ChangeSpec := { name := "fnExactNewIterator", fn := fun _ => fun
  | [d] => { results := [.lit (.bool false)], args := [d] }
  | _ => none }
def FnExactNewIteratorWrongFalsely : Prop := fnExactNewIteratorRow.holds Try.pinned (OpenSpec.ofChange fnExactNewIteratorWrong)

/-- 'laws.FnExactCloseLevel': WHATEVER THE INPUT: true; the input reads as it did. -/
def fnExactCloseLevelSpec : ChangeSpec := { name := "fnExactCloseLevel", fn := fun _ => fun
  | [d] => { results := [.lit (.bool true)], args := [d] }
  | _ => none }
def fnExactCloseLevelRow : OpenClaim := { program := "ythochdlbmaiclaa", sum := "88f7d8972a09b33e9c2b31655912ca2601138c650938810c35060132051b87f6", func := "loop.example/g01917/laws.FnExactCloseLevel", spec := "fnExactCloseLevel", apart := false }
def FnExactCloseLevelSaid : Prop := fnExactCloseLevelRow.holds Try.pinned (OpenSpec.ofChange fnExactCloseLevelSpec)

/-- ITS FALSE NEIGHBOUR: 'it returns false'. Refute it at one input. -/
def fnExactCloseLevelWrong : ChangeSpec := { name := "fnExactCloseLevel", fn := fun _ => fun
  | [d] => { results := [.lit (.bool false)], args := [d] }
  | _ => none }
def FnExactCloseLevelWrongFalsely : Prop := fnExactCloseLevelRow.holds Try.pinned (OpenSpec.ofChange fnExactCloseLevelWrong)

/-- 'laws.FnExactSeekKey': WHATEVER THE INPUT: true; the input reads as it did. -/
def fnExactSeekKeySpec : ChangeSpec := { name := "fnExactSeekKey", fn := fun _ => fun
  | [d1, d2] => { results := [.lit (.bool true)], args := [d1, d2] }
  | _ => none }
def fnExactSeekKeyRow : OpenClaim := { program := "ythochdlbmaiclaa", sum := "88f7d8972a09b33e9c2b31655912ca2601138c650938810c35060132051b87f6", func := "loop.example/g01917/laws.FnExactSeekKey", spec := "fnExactSeekKey", apart := false }
def FnExactSeekKeySaid : Prop := fnExactSeekKeyRow.holds Try.pinned (OpenSpec.ofChange fnExactSeekKeySpec)

/-- ITS FALSE NEIGHBOUR: 'it returns false'. Refute it at one input. -/
def fnExactSeekKeyWrong : ChangeSpec := { name := "fnExactSeekKey", fn := fun _ => fun
  | [d1, d2] => { results := [.lit (.bool false)], args := [d1, d2] }
  | _ => none }
def FnExactSeekKeyWrongFalsely : Prop := fnExactSeekKeyRow.holds Try.pinned (OpenSpec.ofChange fnExactSeekKeyWrong)

/-- 'laws.FnExactNextKey': WHATEVER THE INPUT: true; the input reads as it did. -/
def fnExactNextKeySpec : ChangeSpec := { name := "fnExactNextKey", fn := fun _ => fun
  | [d] => { results := [.lit (.bool true)], args := [d] }
  | _ => none }
def fnExactNextKeyRow : OpenClaim := { program := "ythochdlbmaiclaa", sum := "88f7d8972a09b33e9c2b31655912ca2601138c650938810c35060132051b87f6", func := "loop.example/g01917/laws.FnExactNextKey", spec := "fnExactNextKey", apart := false }
def FnExactNextKeySaid : Prop := fnExactNextKeyRow.holds Try.pinned (OpenSpec.ofChange fnExactNextKeySpec)

/-- ITS FALSE NEIGHBOUR: 'it returns false'. Refute it at one input. -/
def fnExactNextKeyWrong : ChangeSpec := { name := "fnExactNextKey", fn := fun _ => fun
  | [d] => { results := [.lit (.bool false)], args := [d] }
  | _ => none }
def FnExactNextKeyWrongFalsely : Prop := fnExactNextKeyRow.holds Try.pinned (OpenSpec.ofChange fnExactNextKeyWrong)

/-- 'laws.FnExactOpenIterator': WHATEVER THE INPUT: true; the input reads as it did. -/
def fnExactOpenIteratorSpec : ChangeSpec := { name := "fnExactOpenIterator", fn := fun _ => fun
  | [d] => { results := [.lit (.bool true)], args := [d] }
  | _ => none }
def fnExactOpenIteratorRow : OpenClaim := { program := "ythochdlbmaiclaa", sum := "88f7d8972a09b33e9c2b31655912ca2601138c650938810c35060132051b87f6", func := "loop.example/g01917/laws.FnExactOpenIterator", spec := "fnExactOpenIterator", apart := false }
def FnExactOpenIteratorSaid : Prop := fnExactOpenIteratorRow.holds Try.pinned (OpenSpec.ofChange fnExactOpenIteratorSpec)

/-- ITS FALSE NEIGHBOUR: 'it returns false'. Refute it at one input. -/
def fnExactOpenIteratorWrong : ChangeSpec := { name := "fnExactOpenIterator", fn := fun _ => fun
  | [d] => { results := [.lit (.bool false)], args := [d] }
  | _ => none }
def FnExactOpenIteratorWrongFalsely : Prop := fnExactOpenIteratorRow.holds Try.pinned (OpenSpec.ofChange fnExactOpenIteratorWrong)

/- THE SECOND FORM. 'bulk': how many values and letters a reading holds, each counted each time it is reached (what is shared counts as often as it is met; a slice's spare places count too). A statement '..UptoSaid' is the law's where the arguments, and the package variables that the reading takes, are together of bulk at most 1048576: NARROWER than '..Said'. Prove '..Said' where nothing that the law and all that it calls make is longer than what came in: it says more and counts as full. Else prove '..UptoSaid'. A law counts once. -/
mutual
def uptoBulk {H : Type} : DataW H → Nat
  | .lit (.string bytes) => bytes.length + 1
  | .lit _ => 1
  | .nil => 1
  | .ptr d => uptoBulk d + 1
  | .slice elems spare => uptoBulkAll elems + uptoBulkAll spare + 1
  | .agg parts => uptoBulkAll parts + 1
  | .iface _ d => uptoBulk d + 1
  | .map entries => uptoBulkEntries entries + 1
  | .held _ => 1
def uptoBulkAll {H : Type} : List (DataW H) → Nat
  | [] => 0
  | d :: r => uptoBulk d + uptoBulkAll r
def uptoBulkEntries {H : Type} : List (Lit × DataW H) → Nat
  | [] => 0
  | x :: r => uptoBulkEntry x + uptoBulkEntries r
def uptoBulkEntry {H : Type} : Lit × DataW H → Nat
  | (.string bytes, d) => bytes.length + uptoBulk d + 1
  | (_, d) => uptoBulk d + 1
 end
def uptoSmall : (H : Type) → List (DataW H) → Bool := fun _ ds => decide (uptoBulkAll ds ≤ 1048576)
def OpenSpec.upto (s : _root_.Go.ChangeSpec) : _root_.Go.OpenSpec := { _root_.Go.OpenSpec.ofChange s with cond := some uptoSmall }

/-- 'laws.FnExactNewIterator', WHERE WHAT IT READS IS OF BULK AT MOST 1048576: true; the input reads as it did. -/
def fnExactNewIteratorUptoRow : OpenClaim := { program := "ythochdlbmaiclaa", sum := "88f7d8972a09b33e9c2b31655912ca2601138c650938810c35060132051b87f6", func := "loop.example/g01917/laws.FnExactNewIterator", spec := "fnExactNewIterator", apart := false, narrowed := true }
def FnExactNewIteratorUptoSaid : Prop := fnExactNewIteratorUptoRow.holds Try.pinned (OpenSpec.upto fnExactNewIteratorSpec)

/-- 'laws.FnExactCloseLevel', WHERE WHAT IT READS IS OF BULK AT MOST 1048576: true; the input reads as it did. -/
def fnExactCloseLevelUptoRow : OpenClaim := { program := "ythochdlbmaiclaa", sum := "88f7d8972a09b33e9c2b31655912ca2601138c650938810c35060132051b87f6", func := "loop.example/g01917/laws.FnExactCloseLevel", spec := "fnExactCloseLevel", apart := false, narrowed := true }
def FnExactCloseLevelUptoSaid : Prop := fnExactCloseLevelUptoRow.holds Try.pinned (OpenSpec.upto fnExactCloseLevelSpec)

/-- 'laws.FnExactSeekKey', WHERE WHAT IT READS IS OF BULK AT MOST 1048576: true; the input reads as it did. -/
def fnExactSeekKeyUptoRow : OpenClaim := { program := "ythochdlbmaiclaa", sum := "88f7d8972a09b33e9c2b31655912ca2601138c650938810c35060132051b87f6", func := "loop.example/g01917/laws.FnExactSeekKey", spec := "fnExactSeekKey", apart := false, narrowed := true }
def FnExactSeekKeyUptoSaid : Prop := fnExactSeekKeyUptoRow.holds Try.pinned (OpenSpec.upto fnExactSeekKeySpec)

/-- 'laws.FnExactNextKey', WHERE WHAT IT READS IS OF BULK AT MOST 1048576: true; the input reads as it did. -/
def fnExactNextKeyUptoRow : OpenClaim := { program := "ythochdlbmaiclaa", sum := "88f7d8972a09b33e9c2b31655912ca2601138c650938810c35060132051b87f6", func := "loop.example/g01917/laws.FnExactNextKey", spec := "fnExactNextKey", apart := false, narrowed := true }
def FnExactNextKeyUptoSaid : Prop := fnExactNextKeyUptoRow.holds Try.pinned (OpenSpec.upto fnExactNextKeySpec)

/-- 'laws.FnExactOpenIterator', WHERE WHAT IT READS IS OF BULK AT MOST 1048576: true; the input reads as it did. -/
def fnExactOpenIteratorUptoRow : OpenClaim := { program := "ythochdlbmaiclaa", sum := "88f7d8972a09b33e9c2b31655912ca2601138c650938810c35060132051b87f6", func := "loop.example/g01917/laws.FnExactOpenIterator", spec := "fnExactOpenIterator", apart := false, narrowed := true }
def FnExactOpenIteratorUptoSaid : Prop := fnExactOpenIteratorUptoRow.holds Try.pinned (OpenSpec.upto fnExactOpenIteratorSpec)

end Rows
end Go.Proofs.Ythochdlbmaiclaa
