/-
  No cell of these rows narrows 'for every input' (looked for: loops, veiled, ifaces, maps, wideKeys, modest, calm, conditions, laid).
  DERIVED. THE GIVEN ROWS OF THIS SEAT. 3 by the template 'for every input the law returns true; each argument reads behind the call as it read before'; 0 by the template 'total and deterministic' (their statements: YtgannpmngkgejaaTotals.lean).
  GIVEN WITH THE SEED: the statements are not yours to turn. If you find one false, say at which input.
  Laid BY PROGRAM, IN A SANDBOX (cutbox-rows.mjs): the forced cells as the released guide's own fill.sh prints them over the translation b0e0f1fd8f49f1c5… (all of the seat's roots in one cut). By AI agents, Wed Nov 11 2026. No macro, syntax, notation, axiom, sorry.
-/
import Derived.Test.YtgannpmngkgejaaChecked
import GoSem.Claim
import GoSem.ClaimJoined
import GoSem.ClaimMapViews
import Derived.JoinedTies
import Derived.KernelRfl
namespace Go.Proofs.Ytgannpmngkgejaa
/- THE CELL 'sum', in the pinned program and in every row, IS THE sha256 OF THE DUMP (.gsa) THAT YtgannpmngkgejaaProg.lean LOADS. Nothing in Lean hashes anything: it is a label: what it is worth is what the hold of that sum in a sandbox is worth. -/
noncomputable def Try.pinned : Pinned := { name := "ytgannpmngkgejaa", sum := "b0e0f1fd8f49f1c53fe2c2d2f25c2b4fb014c9ef608867f0197fe8077289ded9", checked := Try.checked }
namespace Rows
def none {H : Type} : Left H := { results := [], args := [] }

/-- 'laws.FnExactDualProgram': WHATEVER THE INPUT: true; the input reads as it did. -/
def fnExactDualProgramSpec : ChangeSpec := { name := "fnExactDualProgram", fn := fun _ => fun
  | [d] => { results := [.lit (.bool true)], args := [d] }
  | _ => none }
def fnExactDualProgramRow : OpenClaim := { program := "ytgannpmngkgejaa", sum := "b0e0f1fd8f49f1c53fe2c2d2f25c2b4fb014c9ef608867f0197fe8077289ded9", func := "loop.example/g01917/laws.FnExactDualProgram", spec := "fnExactDualProgram", apart := false }
def FnExactDualProgramSaid : Prop := fnExactDualProgramRow.holds Try.pinned (OpenSpec.ofChange fnExactDualProgramSpec)

/-- ITS FALSE NEIGHBOUR: 'it returns false'. Refute it at one input. -/
def fnExactDualProgramWrong : ChangeSpec := { name := "fnExactDualProgram", fn := fun _ => fun
  | [d] => { results := [.lit (.bool false)], args := [d] }
  | _ => none }
def FnExactDualProgramWrongFalsely : Prop := fnExactDualProgramRow.holds Try.pinned (OpenSpec.ofChange fnExactDualProgramWrong)

/-- 'laws.FnExactIsFeasibleMin': WHATEVER THE INPUT: true; the input reads as it did. -/
def fnExactIsFeasibleMinSpec : ChangeSpec := { name := "fnExactIsFeasibleMin", fn := fun _ => fun
  | [d1, d2] => { results := [.lit (.bool true)], args := [d1, d2] }
  | _ => none }
def fnExactIsFeasibleMinRow : OpenClaim := { program := "ytgannpmngkgejaa", sum := "b0e0f1fd8f49f1c53fe2c2d2f25c2b4fb014c9ef608867f0197fe8077289ded9", func := "loop.example/g01917/laws.FnExactIsFeasibleMin", spec := "fnExactIsFeasibleMin", apart := false }
def FnExactIsFeasibleMinSaid : Prop := fnExactIsFeasibleMinRow.holds Try.pinned (OpenSpec.ofChange fnExactIsFeasibleMinSpec)

/-- ITS FALSE NEIGHBOUR: 'it returns false'. Refute it at one input. -/
def fnExactIsFeasibleMinWrong : ChangeSpec := { name := "fnExactIsFeasibleMin", fn := fun _ => fun
  | [d1, d2] => { results := [.lit (.bool false)], args := [d1, d2] }
  | _ => none }
def FnExactIsFeasibleMinWrongFalsely : Prop := fnExactIsFeasibleMinRow.holds Try.pinned (OpenSpec.ofChange fnExactIsFeasibleMinWrong)

/-- 'laws.FnExactIsFeasibleMax': WHATEVER THE INPUT: true; the input reads as it did. -/
def fnExactIsFeasibleMaxSpec : ChangeSpec := { name := "fnExactIsFeasibleMax", fn := fun _ => fun
  | [d1, d2] => { results := [.lit (.bool true)], args := [d1, d2] }
  | _ => none }
def fnExactIsFeasibleMaxRow : OpenClaim := { program := "ytgannpmngkgejaa", sum := "b0e0f1fd8f49f1c53fe2c2d2f25c2b4fb014c9ef608867f0197fe8077289ded9", func := "loop.example/g01917/laws.FnExactIsFeasibleMax", spec := "fnExactIsFeasibleMax", apart := false }
def FnExactIsFeasibleMaxSaid : Prop := fnExactIsFeasibleMaxRow.holds Try.pinned (OpenSpec.ofChange fnExactIsFeasibleMaxSpec)

/-- ITS FALSE NEIGHBOUR: 'it returns false'. Refute it at one input. -/
def fnExactIsFeasibleMaxWrong : ChangeSpec := { name := "fnExactIsFeasibleMax", fn := fun _ => fun
  | [d1, d2] => { results := [.lit (.bool false)], args := [d1, d2] }
  | _ => none }
def FnExactIsFeasibleMaxWrongFalsely : Prop := fnExactIsFeasibleMaxRow.holds Try.pinned (OpenSpec.ofChange fnExactIsFeasibleMaxWrong)

/- THE SECOND FORM. 'bulk': how many values and letters a reading holds, each counted each time it is reached (what is shared counts as often as it is met; a slice's spare places count too). A statement '..UptoSaid' is the law's where the arguments, and the package variables that the reading takes, are together of bulk at most 1048576: NARROWER than '..Said'. Prove '..Said' where nothing that the law and all that it calls make is longer than what came in: it says more and counts as full. Else prove '..UptoSaid'. A law counts once. -/
mutual
def uptoBulk {H : Type} : DataW H → Nat
  | .lit (.string bytes) => bytes.length + 1
  | .lit _ => 1
  | .nil => 1
  | .ptr d => uptoBulk d + 1
  | .slice elems spare => uptoBulkAll elems + uptoBulkAll spare + 1
  | .agg parts => uptoBulkAll parts + 1
  | .iface _ d => uptoBulk d + 1
  | .map entries => uptoBulkEntries entries + 1
  | .held _ => 1
def uptoBulkAll {H : Type} : List (DataW H) → Nat
  | [] => 0
  | d :: r => uptoBulk d + uptoBulkAll r
def uptoBulkEntries {H : Type} : List (Lit × DataW H) → Nat
  | [] => 0
  | x :: r => uptoBulkEntry x + uptoBulkEntries r
def uptoBulkEntry {H : Type} : Lit × DataW H → Nat
  | (.string bytes, d) => bytes.length + uptoBulk d + 1
  | (_, d) => uptoBulk d + 1
 end
def uptoSmall : (H : Type) → List (DataW H) → Bool := fun _ ds => decide (uptoBulkAll ds ≤ 1048576)
def OpenSpec.upto (s : _root_.Go.ChangeSpec) : _root_.Go.OpenSpec := { _root_.Go.OpenSpec.ofChange s with cond := some uptoSmall }

/-- 'laws.FnExactDualProgram', WHERE WHAT IT READS IS OF BULK AT MOST 1048576: true; the input reads as it did. -/
def fnExactDualProgramUptoRow : OpenClaim := { program := "ytgannpmngkgejaa", sum := "b0e0f1fd8f49f1c53fe2c2d2f25c2b4fb014c9ef608867f0197fe8077289ded9", func := "loop.example/g01917/laws.FnExactDualProgram", spec := "fnExactDualProgram", apart := false, narrowed := true }
def FnExactDualProgramUptoSaid : Prop := fnExactDualProgramUptoRow.holds Try.pinned (OpenSpec.upto fnExactDualProgramSpec)

/-- 'laws.FnExactIsFeasibleMin', WHERE WHAT IT READS IS OF BULK AT MOST 1048576: true; the input reads as it did. -/
def fnExactIsFeasibleMinUptoRow : OpenClaim := { program := "ytgannpmngkgejaa", sum := "b0e0f1fd8f49f1c53fe2c2d2f25c2b4fb014c9ef608867f0197fe8077289ded9", func := "loop.example/g01917/laws.FnExactIsFeasibleMin", spec := "fnExactIsFeasibleMin", apart := false, narrowed := true }
def FnExactIsFeasibleMinUptoSaid : Prop := fnExactIsFeasibleMinUptoRow.holds Try.pinned (OpenSpec.upto fnExactIsFeasibleMinSpec)

/-- 'laws.FnExactIsFeasibleMax', WHERE WHAT IT READS IS OF BULK AT MOST 1048576: true; the input reads as it did. -/
def fnExactIsFeasibleMaxUptoRow : OpenClaim := { program := "ytgannpmngkgejaa", sum := "b0e0f1fd8f49f1c53fe2c2d2f25c2b4fb014c9ef608867f0197fe8077289ded9", func := "loop.example/g01917/laws.FnExactIsFeasibleMax", spec := "fnExactIsFeasibleMax", apart := false, narrowed := true }
def FnExactIsFeasibleMaxUptoSaid : Prop := fnExactIsFeasibleMaxUptoRow.holds Try.pinned (OpenSpec.upto fnExactIsFeasibleMaxSpec)

end Rows
end Go.Proofs.Ytgannpmngkgejaa
