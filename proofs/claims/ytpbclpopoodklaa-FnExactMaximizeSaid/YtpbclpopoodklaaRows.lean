/-
  No cell of these rows narrows 'for every input' (looked for: loops, veiled, ifaces, maps, wideKeys, modest, calm, conditions, laid).
  DERIVED. THE GIVEN ROWS OF THIS SEAT. 3 by the template 'for every input the law returns true; each argument reads behind the call as it read before'; 0 by the template 'total and deterministic' (their statements: YtpbclpopoodklaaTotals.lean).
  GIVEN WITH THE SEED: the statements are not yours to turn. If you find one false, say at which input.
  Laid BY PROGRAM, IN A SANDBOX (cutbox-rows.mjs): the forced cells as the released guide's own fill.sh prints them over the translation ab6a4579ecce7f69… (all of the seat's roots in one cut). By AI agents, Wed Nov 11 2026. No macro, syntax, notation, axiom, sorry.
-/
import Derived.Test.YtpbclpopoodklaaChecked
import GoSem.Claim
import GoSem.ClaimJoined
import GoSem.ClaimMapViews
import Derived.JoinedTies
import Derived.KernelRfl
namespace Go.Proofs.Ytpbclpopoodklaa
/- THE CELL 'sum', in the pinned program and in every row, IS THE sha256 OF THE DUMP (.gsa) THAT YtpbclpopoodklaaProg.lean LOADS. Nothing in Lean hashes anything: it is a label: what it is worth is what the hold of that sum in a sandbox is worth. -/
noncomputable def Try.pinned : Pinned := { name := "ytpbclpopoodklaa", sum := "ab6a4579ecce7f6930d4589335ab88cea4efa6c34ec61dcc477c1ae070c7ddc2", checked := Try.checked }
namespace Rows
def none {H : Type} : Left H := { results := [], args := [] }

/-- 'laws.FnExactFeasibleVertices': WHATEVER THE INPUT: true; the input reads as it did. -/
def fnExactFeasibleVerticesSpec : ChangeSpec := { name := "fnExactFeasibleVertices", fn := fun _ => fun
  | [d] => { results := [.lit (.bool true)], args := [d] }
  | _ => none }
def fnExactFeasibleVerticesRow : OpenClaim := { program := "ytpbclpopoodklaa", sum := "ab6a4579ecce7f6930d4589335ab88cea4efa6c34ec61dcc477c1ae070c7ddc2", func := "loop.example/g01917/laws.FnExactFeasibleVertices", spec := "fnExactFeasibleVertices", unfollowed := true, recurses := true, apart := false }
def FnExactFeasibleVerticesSaid : Prop := fnExactFeasibleVerticesRow.holds Try.pinned (OpenSpec.ofChange fnExactFeasibleVerticesSpec)

/-- ITS FALSE NEIGHBOUR: 'it returns false'. Refute it at one input. -/
def fnExactFeasibleVerticesWrong : ChangeSpec := { name := "fnExactFeasibleVertices", fn := fun _ => fun
  | [d] => { results := [.lit (.bool false)], args := [d] }
  | _ => none }
def FnExactFeasibleVerticesWrongFalsely : Prop := fnExactFeasibleVerticesRow.holds Try.pinned (OpenSpec.ofChange fnExactFeasibleVerticesWrong)

/-- 'laws.FnExactMinimize': WHATEVER THE INPUT: true; the input reads as it did. -/
def fnExactMinimizeSpec : ChangeSpec := { name := "fnExactMinimize", fn := fun _ => fun
  | [d] => { results := [.lit (.bool true)], args := [d] }
  | _ => none }
def fnExactMinimizeRow : OpenClaim := { program := "ytpbclpopoodklaa", sum := "ab6a4579ecce7f6930d4589335ab88cea4efa6c34ec61dcc477c1ae070c7ddc2", func := "loop.example/g01917/laws.FnExactMinimize", spec := "fnExactMinimize", unfollowed := true, recurses := true, apart := false }
def FnExactMinimizeSaid : Prop := fnExactMinimizeRow.holds Try.pinned (OpenSpec.ofChange fnExactMinimizeSpec)

/-- ITS FALSE NEIGHBOUR: 'it returns false'. Refute it at one input. -/
def fnExactMinimizeWrong : ChangeSpec := { name := "fnExactMinimize", fn := fun _ => fun
  | [d] => { results := [.lit (.bool false)], args := [d] }
  | _ => none }
def FnExactMinimizeWrongFalsely : Prop := fnExactMinimizeRow.holds Try.pinned (OpenSpec.ofChange fnExactMinimizeWrong)

/-- 'laws.FnExactMaximize': WHATEVER THE INPUT: true; the input reads as it did. -/
def fnExactMaximizeSpec : ChangeSpec := { name := "fnExactMaximize", fn := fun _ => fun
  | [d] => { results := [.lit (.bool true)], args := [d] }
  | _ => none }
def fnExactMaximizeRow : OpenClaim := { program := "ytpbclpopoodklaa", sum := "ab6a4579ecce7f6930d4589335ab88cea4efa6c34ec61dcc477c1ae070c7ddc2", func := "loop.example/g01917/laws.FnExactMaximize", spec := "fnExactMaximize", unfollowed := true, recurses := true, apart := false }
def FnExactMaximizeSaid : Prop := fnExactMaximizeRow.holds Try.pinned (OpenSpec.ofChange fnExactMaximizeSpec)

/-- ITS FALSE NEIGHBOUR: 'it returns false'. Refute it at one input. -/
def fnExactMaximizeWrong : ChangeSpec := { name := "fnExactMaximize", fn := fun _ => fun
  | [d] => { results := [.lit (.bool false)], args := [d] }
  | _ => none }
def FnExactMaximizeWrongFalsely : Prop := fnExactMaximizeRow.holds Try.pinned (OpenSpec.ofChange fnExactMaximizeWrong)

/- THE SECOND FORM. 'bulk': how many values and letters a reading holds, each counted each time it is reached (what is shared counts as often as it is met; a slice's spare places count too). A statement '..UptoSaid' is the law's where the arguments, and the package variables that the reading takes, are together of bulk at most 1048576: NARROWER than '..Said'. Prove '..Said' where nothing that the law and all that it calls make is longer than what came in: it says more and counts as full. Else prove '..UptoSaid'. A law counts once. -/
mutual
def uptoBulk {H : Type} : DataW H → Nat
  | .lit (.string bytes) => bytes.length + 1
  | .lit _ => 1
  | .nil => 1
  | .ptr d => uptoBulk d + 1
  | .slice elems spare => uptoBulkAll elems + uptoBulkAll spare + 1
  | .agg parts => uptoBulkAll parts + 1
  | .iface _ d => uptoBulk d + 1
  | .map entries => uptoBulkEntries entries + 1
  | .held _ => 1
def uptoBulkAll {H : Type} : List (DataW H) → Nat
  | [] => 0
  | d :: r => uptoBulk d + uptoBulkAll r
def uptoBulkEntries {H : Type} : List (Lit × DataW H) → Nat
  | [] => 0
  | x :: r => uptoBulkEntry x + uptoBulkEntries r
def uptoBulkEntry {H : Type} : Lit × DataW H → Nat
  | (.string bytes, d) => bytes.length + uptoBulk d + 1
  | (_, d) => uptoBulk d + 1
 end
def uptoSmall : (H : Type) → List (DataW H) → Bool := fun _ ds => decide (uptoBulkAll ds ≤ 1048576)
def OpenSpec.upto (s : _root_.Go.ChangeSpec) : _root_.Go.OpenSpec := { _root_.Go.OpenSpec.ofChange s with cond := some uptoSmall }

/-- 'laws.FnExactFeasibleVertices', WHERE WHAT IT READS IS OF BULK AT MOST 1048576: true; the input reads as it did. -/
def fnExactFeasibleVerticesUptoRow : OpenClaim := { program := "ytpbclpopoodklaa", sum := "ab6a4579ecce7f6930d4589335ab88cea4efa6c34ec61dcc477c1ae070c7ddc2", func := "loop.example/g01917/laws.FnExactFeasibleVertices", spec := "fnExactFeasibleVertices", unfollowed := true, recurses := true, apart := false, narrowed := true }
def FnExactFeasibleVerticesUptoSaid : Prop := fnExactFeasibleVerticesUptoRow.holds Try.pinned (OpenSpec.upto fnExactFeasibleVerticesSpec)

/-- 'laws.FnExactMinimize', WHERE WHAT IT READS IS OF BULK AT MOST 1048576: true; the input reads as it did. -/
def fnExactMinimizeUptoRow : OpenClaim := { program := "ytpbclpopoodklaa", sum := "ab6a4579ecce7f6930d4589335ab88cea4efa6c34ec61dcc477c1ae070c7ddc2", func := "loop.example/g01917/laws.FnExactMinimize", spec := "fnExactMinimize", unfollowed := true, recurses := true, apart := false, narrowed := true }
def FnExactMinimizeUptoSaid : Prop := fnExactMinimizeUptoRow.holds Try.pinned (OpenSpec.upto fnExactMinimizeSpec)

/-- 'laws.FnExactMaximize', WHERE WHAT IT READS IS OF BULK AT MOST 1048576: true; the input reads as it did. -/
def fnExactMaximizeUptoRow : OpenClaim := { program := "ytpbclpopoodklaa", sum := "ab6a4579ecce7f6930d4589335ab88cea4efa6c34ec61dcc477c1ae070c7ddc2", func := "loop.example/g01917/laws.FnExactMaximize", spec := "fnExactMaximize", unfollowed := true, recurses := true, apart := false, narrowed := true }
def FnExactMaximizeUptoSaid : Prop := fnExactMaximizeUptoRow.holds Try.pinned (OpenSpec.upto fnExactMaximizeSpec)

end Rows
end Go.Proofs.Ytpbclpopoodklaa
