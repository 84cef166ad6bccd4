/-
  No cell of these rows narrows 'for every input' (looked for: loops, veiled, ifaces, maps, wideKeys, modest, calm, conditions, laid).
  DERIVED. THE GIVEN ROWS OF THIS SEAT. 3 by the template 'for every input the law returns true; each argument reads behind the call as it read before'; 0 by the template 'total and deterministic' (their statements: YtnipfgmldhepkaaTotals.lean).
  GIVEN WITH THE SEED: the statements are not yours to turn. If you find one false, say at which input.
  Laid BY PROGRAM, IN A SANDBOX (cutbox-rows.mjs): the forced cells as the released guide's own fill.sh prints them over the translation 80b625bcc3e9b419… (all of the seat's roots in one cut). By AI agents, Wed Nov 11 2026. No macro, syntax, notation, axiom, sorry.
-/
import Derived.Test.YtnipfgmldhepkaaChecked
import GoSem.Claim
import GoSem.ClaimJoined
import GoSem.ClaimMapViews
import Derived.JoinedTies
import Derived.KernelRfl
namespace Go.Proofs.Ytnipfgmldhepkaa
/- THE CELL 'sum', in the pinned program and in every row, IS THE sha256 OF THE DUMP (.gsa) THAT YtnipfgmldhepkaaProg.lean LOADS. Nothing in Lean hashes anything: it is a label: what it is worth is what the hold of that sum in a sandbox is worth. -/
noncomputable def Try.pinned : Pinned := { name := "ytnipfgmldhepkaa", sum := "80b625bcc3e9b4199b7d9d05d6e5e7978b31ba2f64b2b6c6daef351b71824cbb", checked := Try.checked }
namespace Rows
def none {H : Type} : Left H := { results := [], args := [] }

/-- 'laws.FnExactProductOfPowers': WHATEVER THE INPUT: true; the input reads as it did. -/
def fnExactProductOfPowersSpec : ChangeSpec := { name := "fnExactProductOfPowers", fn := fun _ => fun
  | [d1, d2] => { results := [.lit (.bool true)], args := [d1, d2] }
  | _ => none }
def fnExactProductOfPowersRow : OpenClaim := { program := "ytnipfgmldhepkaa", sum := "80b625bcc3e9b4199b7d9d05d6e5e7978b31ba2f64b2b6c6daef351b71824cbb", func := "loop.example/g01917/laws.FnExactProductOfPowers", spec := "fnExactProductOfPowers", apart := false }
def FnExactProductOfPowersSaid : Prop := fnExactProductOfPowersRow.holds Try.pinned (OpenSpec.ofChange fnExactProductOfPowersSpec)

/-- ITS FALSE NEIGHBOUR: 'it returns false'. Refute it at one input. -/
def fnExactProductOfPowersWrong : ChangeSpec := { name := "fnExactProductOfPowers", fn := fun _ => fun
  | [d1, d2] => { results := [.lit (.bool false)], args := [d1, d2] }
  | _ => none }
def FnExactProductOfPowersWrongFalsely : Prop := fnExactProductOfPowersRow.holds Try.pinned (OpenSpec.ofChange fnExactProductOfPowersWrong)

/-- 'laws.FnExactIsWithinAGMBound': WHATEVER THE INPUT: true; the input reads as it did. -/
def fnExactIsWithinAGMBoundSpec : ChangeSpec := { name := "fnExactIsWithinAGMBound", fn := fun _ => fun
  | [d1, d2, d3] => { results := [.lit (.bool true)], args := [d1, d2, d3] }
  | _ => none }
def fnExactIsWithinAGMBoundRow : OpenClaim := { program := "ytnipfgmldhepkaa", sum := "80b625bcc3e9b4199b7d9d05d6e5e7978b31ba2f64b2b6c6daef351b71824cbb", func := "loop.example/g01917/laws.FnExactIsWithinAGMBound", spec := "fnExactIsWithinAGMBound", apart := false }
def FnExactIsWithinAGMBoundSaid : Prop := fnExactIsWithinAGMBoundRow.holds Try.pinned (OpenSpec.ofChange fnExactIsWithinAGMBoundSpec)

/-- ITS FALSE NEIGHBOUR: 'it returns false'. Refute it at one input. -/
def fnExactIsWithinAGMBoundWrong : ChangeSpec := { name := "fnExactIsWithinAGMBound", fn := fun _ => fun
  | [d1, d2, d3] => { results := [.lit (.bool false)], args := [d1, d2, d3] }
  | _ => none }
def FnExactIsWithinAGMBoundWrongFalsely : Prop := fnExactIsWithinAGMBoundRow.holds Try.pinned (OpenSpec.ofChange fnExactIsWithinAGMBoundWrong)

/-- 'laws.FnExactCompareAGMBounds': WHATEVER THE INPUT: true; the input reads as it did. -/
def fnExactCompareAGMBoundsSpec : ChangeSpec := { name := "fnExactCompareAGMBounds", fn := fun _ => fun
  | [d1, d2, d3] => { results := [.lit (.bool true)], args := [d1, d2, d3] }
  | _ => none }
def fnExactCompareAGMBoundsRow : OpenClaim := { program := "ytnipfgmldhepkaa", sum := "80b625bcc3e9b4199b7d9d05d6e5e7978b31ba2f64b2b6c6daef351b71824cbb", func := "loop.example/g01917/laws.FnExactCompareAGMBounds", spec := "fnExactCompareAGMBounds", apart := false }
def FnExactCompareAGMBoundsSaid : Prop := fnExactCompareAGMBoundsRow.holds Try.pinned (OpenSpec.ofChange fnExactCompareAGMBoundsSpec)

/-- ITS FALSE NEIGHBOUR: 'it returns false'. Refute it at one input. -/
def fnExactCompareAGMBoundsWrong : ChangeSpec := { name := "fnExactCompareAGMBounds", fn := fun _ => fun
  | [d1, d2, d3] => { results := [.lit (.bool false)], args := [d1, d2, d3] }
  | _ => none }
def FnExactCompareAGMBoundsWrongFalsely : Prop := fnExactCompareAGMBoundsRow.holds Try.pinned (OpenSpec.ofChange fnExactCompareAGMBoundsWrong)

/- THE SECOND FORM. 'bulk': how many values and letters a reading holds, each counted each time it is reached (what is shared counts as often as it is met; a slice's spare places count too). A statement '..UptoSaid' is the law's where the arguments, and the package variables that the reading takes, are together of bulk at most 1048576: NARROWER than '..Said'. Prove '..Said' where nothing that the law and all that it calls make is longer than what came in: it says more and counts as full. Else prove '..UptoSaid'. A law counts once. -/
mutual
def uptoBulk {H : Type} : DataW H → Nat
  | .lit (.string bytes) => bytes.length + 1
  | .lit _ => 1
  | .nil => 1
  | .ptr d => uptoBulk d + 1
  | .slice elems spare => uptoBulkAll elems + uptoBulkAll spare + 1
  | .agg parts => uptoBulkAll parts + 1
  | .iface _ d => uptoBulk d + 1
  | .map entries => uptoBulkEntries entries + 1
  | .held _ => 1
def uptoBulkAll {H : Type} : List (DataW H) → Nat
  | [] => 0
  | d :: r => uptoBulk d + uptoBulkAll r
def uptoBulkEntries {H : Type} : List (Lit × DataW H) → Nat
  | [] => 0
  | x :: r => uptoBulkEntry x + uptoBulkEntries r
def uptoBulkEntry {H : Type} : Lit × DataW H → Nat
  | (.string bytes, d) => bytes.length + uptoBulk d + 1
  | (_, d) => uptoBulk d + 1
 end
def uptoSmall : (H : Type) → List (DataW H) → Bool := fun _ ds => decide (uptoBulkAll ds ≤ 1048576)
def OpenSpec.upto (s : _root_.Go.ChangeSpec) : _root_.Go.OpenSpec := { _root_.Go.OpenSpec.ofChange s with cond := some uptoSmall }

/-- 'laws.FnExactProductOfPowers', WHERE WHAT IT READS IS OF BULK AT MOST 1048576: true; the input reads as it did. -/
def fnExactProductOfPowersUptoRow : OpenClaim := { program := "ytnipfgmldhepkaa", sum := "80b625bcc3e9b4199b7d9d05d6e5e7978b31ba2f64b2b6c6daef351b71824cbb", func := "loop.example/g01917/laws.FnExactProductOfPowers", spec := "fnExactProductOfPowers", apart := false, narrowed := true }
def FnExactProductOfPowersUptoSaid : Prop := fnExactProductOfPowersUptoRow.holds Try.pinned (OpenSpec.upto fnExactProductOfPowersSpec)

/-- 'laws.FnExactIsWithinAGMBound', WHERE WHAT IT READS IS OF BULK AT MOST 1048576: true; the input reads as it did. -/
def fnExactIsWithinAGMBoundUptoRow : OpenClaim := { program := "ytnipfgmldhepkaa", sum := "80b625bcc3e9b4199b7d9d05d6e5e7978b31ba2f64b2b6c6daef351b71824cbb", func := "loop.example/g01917/laws.FnExactIsWithinAGMBound", spec := "fnExactIsWithinAGMBound", apart := false, narrowed := true }
def FnExactIsWithinAGMBoundUptoSaid : Prop := fnExactIsWithinAGMBoundUptoRow.holds Try.pinned (OpenSpec.upto fnExactIsWithinAGMBoundSpec)

/-- 'laws.FnExactCompareAGMBounds', WHERE WHAT IT READS IS OF BULK AT MOST 1048576: true; the input reads as it did. -/
def fnExactCompareAGMBoundsUptoRow : OpenClaim := { program := "ytnipfgmldhepkaa", sum := "80b625bcc3e9b4199b7d9d05d6e5e7978b31ba2f64b2b6c6daef351b71824cbb", func := "loop.example/g01917/laws.FnExactCompareAGMBounds", spec := "fnExactCompareAGMBounds", apart := false, narrowed := true }
def FnExactCompareAGMBoundsUptoSaid : Prop := fnExactCompareAGMBoundsUptoRow.holds Try.pinned (OpenSpec.upto fnExactCompareAGMBoundsSpec)

end Rows
end Go.Proofs.Ytnipfgmldhepkaa
