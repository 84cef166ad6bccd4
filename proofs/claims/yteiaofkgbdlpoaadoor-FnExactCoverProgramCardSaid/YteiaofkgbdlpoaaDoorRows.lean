/-
  NARROWER THAN 'FOR EVERY INPUT', by the rows' own cells (each row's printed sentence says how): FnExactCoverProgram: laid · FnExactMinimumCover: laid · FnExactMaximumPacking: laid.
  DERIVED. THE GIVEN ROWS OF THIS SEAT. 3 by the template 'for every input the law returns true; each argument reads behind the call as it read before'; 0 by the template 'total and deterministic' (their statements: YteiaofkgbdlpoaaDoorTotals.lean).
  GIVEN WITH THE SEED: the statements are not yours to turn. If you find one false, say at which input.
  Laid BY PROGRAM, IN A SANDBOX (cutbox-rows.mjs): the forced cells as the released guide's own fill.sh prints them over the translation 1a43e165b3469866… (all of the seat's roots in one cut). By AI agents, Wed Nov 11 2026. No macro, syntax, notation, axiom, sorry.
-/
import Derived.Test.YteiaofkgbdlpoaaDoorChecked
import GoSem.Claim
import GoSem.ClaimJoined
import GoSem.ClaimMapViews
import Derived.JoinedTies
import Derived.KernelRfl
namespace Go.Proofs.YteiaofkgbdlpoaaDoor
/- THE CELL 'sum', in the pinned program and in every row, IS THE sha256 OF THE DUMP (.gsa) THAT YteiaofkgbdlpoaaDoorProg.lean LOADS. Nothing in Lean hashes anything: it is a label: what it is worth is what the hold of that sum in a sandbox is worth. -/
noncomputable def Tryd.pinned : Pinned := { name := "yteiaofkgbdlpoaadoor", sum := "1a43e165b34698661a993cdeac54d9aca667d28b3a15034d8dbc00cbc857cd9f", checked := Tryd.checked }
namespace Rows
def none {H : Type} : Left H := { results := [], args := [] }

/- WHAT THE LISTED PACKAGE-LEVEL VARIABLES READ AS WHEN THE CALL BEGINS. Each datum BY PROGRAM (the guide's laid-datum.mjs) off the statement by which the dump's own 'gosem.cut.vars' lays the variable. In a bare row this is a premise. The card (YteiaofkgbdlpoaaDoorCards.lean) ties it to the program's text. -/
def laid_loop_example_g01917_impl_oneRational {H : Type} : DataW H := .agg [.lit (.int .i64 1), .lit (.int .i64 1)]

/-- 'laws.FnExactCoverProgram': WHATEVER THE INPUT: true; the input reads as it did. -/
def fnExactCoverProgramSpec : ChangeSpec := { name := "fnExactCoverProgram", vars := ["loop.example/g01917/impl.oneRational"], fn := fun _ => fun
  | [d, g1] => { results := [.lit (.bool true)], args := [d], vars := [g1] }
  | _ => none }
def fnExactCoverProgramRow : OpenClaim := { program := "yteiaofkgbdlpoaadoor", sum := "1a43e165b34698661a993cdeac54d9aca667d28b3a15034d8dbc00cbc857cd9f", func := "loop.example/g01917/laws.FnExactCoverProgram", spec := "fnExactCoverProgram", named := ["loop.example/g01917/impl.oneRational"], apart := false, laid := [("loop.example/g01917/impl.oneRational", laid_loop_example_g01917_impl_oneRational)] }
def FnExactCoverProgramSaid : Prop := fnExactCoverProgramRow.holds Tryd.pinned (OpenSpec.ofChange fnExactCoverProgramSpec)

/-- ITS FALSE NEIGHBOUR: 'it returns false'. Refute it at one input. -/
def fnExactCoverProgramWrong : ChangeSpec := { name := "fnExactCoverProgram", vars := ["loop.example/g01917/impl.oneRational"], fn := fun _ => fun
  | [d, g1] => { results := [.lit (.bool false)], args := [d], vars := [g1] }
  | _ => none }
def FnExactCoverProgramWrongFalsely : Prop := fnExactCoverProgramRow.holds Tryd.pinned (OpenSpec.ofChange fnExactCoverProgramWrong)

/-- 'laws.FnExactMinimumCover': WHATEVER THE INPUT: true; the input reads as it did. -/
def fnExactMinimumCoverSpec : ChangeSpec := { name := "fnExactMinimumCover", vars := ["loop.example/g01917/impl.oneRational"], fn := fun _ => fun
  | [d, g1] => { results := [.lit (.bool true)], args := [d], vars := [g1] }
  | _ => none }
def fnExactMinimumCoverRow : OpenClaim := { program := "yteiaofkgbdlpoaadoor", sum := "1a43e165b34698661a993cdeac54d9aca667d28b3a15034d8dbc00cbc857cd9f", func := "loop.example/g01917/laws.FnExactMinimumCover", spec := "fnExactMinimumCover", unfollowed := true, recurses := true, named := ["loop.example/g01917/impl.oneRational"], apart := false, laid := [("loop.example/g01917/impl.oneRational", laid_loop_example_g01917_impl_oneRational)] }
def FnExactMinimumCoverSaid : Prop := fnExactMinimumCoverRow.holds Tryd.pinned (OpenSpec.ofChange fnExactMinimumCoverSpec)

/-- ITS FALSE NEIGHBOUR: 'it returns false'. Refute it at one input. -/
def fnExactMinimumCoverWrong : ChangeSpec := { name := "fnExactMinimumCover", vars := ["loop.example/g01917/impl.oneRational"], fn := fun _ => fun
  | [d, g1] => { results := [.lit (.bool false)], args := [d], vars := [g1] }
  | _ => none }
def FnExactMinimumCoverWrongFalsely : Prop := fnExactMinimumCoverRow.holds Tryd.pinned (OpenSpec.ofChange fnExactMinimumCoverWrong)

/-- 'laws.FnExactMaximumPacking': WHATEVER THE INPUT: true; the input reads as it did. -/
def fnExactMaximumPackingSpec : ChangeSpec := { name := "fnExactMaximumPacking", vars := ["loop.example/g01917/impl.oneRational"], fn := fun _ => fun
  | [d, g1] => { results := [.lit (.bool true)], args := [d], vars := [g1] }
  | _ => none }
def fnExactMaximumPackingRow : OpenClaim := { program := "yteiaofkgbdlpoaadoor", sum := "1a43e165b34698661a993cdeac54d9aca667d28b3a15034d8dbc00cbc857cd9f", func := "loop.example/g01917/laws.FnExactMaximumPacking", spec := "fnExactMaximumPacking", unfollowed := true, recurses := true, named := ["loop.example/g01917/impl.oneRational"], apart := false, laid := [("loop.example/g01917/impl.oneRational", laid_loop_example_g01917_impl_oneRational)] }
def FnExactMaximumPackingSaid : Prop := fnExactMaximumPackingRow.holds Tryd.pinned (OpenSpec.ofChange fnExactMaximumPackingSpec)

/-- ITS FALSE NEIGHBOUR: 'it returns false'. Refute it at one input. -/
def fnExactMaximumPackingWrong : ChangeSpec := { name := "fnExactMaximumPacking", vars := ["loop.example/g01917/impl.oneRational"], fn := fun _ => fun
  | [d, g1] => { results := [.lit (.bool false)], args := [d], vars := [g1] }
  | _ => none }
def FnExactMaximumPackingWrongFalsely : Prop := fnExactMaximumPackingRow.holds Tryd.pinned (OpenSpec.ofChange fnExactMaximumPackingWrong)

/- THE SECOND FORM. 'bulk': how many values and letters a reading holds, each counted each time it is reached (what is shared counts as often as it is met; a slice's spare places count too). A statement '..UptoSaid' is the law's where the arguments, and the package variables that the reading takes, are together of bulk at most 1048576: NARROWER than '..Said'. Prove '..Said' where nothing that the law and all that it calls make is longer than what came in: it says more and counts as full. Else prove '..UptoSaid'. A law counts once. -/
mutual
def uptoBulk {H : Type} : DataW H → Nat
  | .lit (.string bytes) => bytes.length + 1
  | .lit _ => 1
  | .nil => 1
  | .ptr d => uptoBulk d + 1
  | .slice elems spare => uptoBulkAll elems + uptoBulkAll spare + 1
  | .agg parts => uptoBulkAll parts + 1
  | .iface _ d => uptoBulk d + 1
  | .map entries => uptoBulkEntries entries + 1
  | .held _ => 1
def uptoBulkAll {H : Type} : List (DataW H) → Nat
  | [] => 0
  | d :: r => uptoBulk d + uptoBulkAll r
def uptoBulkEntries {H : Type} : List (Lit × DataW H) → Nat
  | [] => 0
  | x :: r => uptoBulkEntry x + uptoBulkEntries r
def uptoBulkEntry {H : Type} : Lit × DataW H → Nat
  | (.string bytes, d) => bytes.length + uptoBulk d + 1
  | (_, d) => uptoBulk d + 1
 end
def uptoSmall : (H : Type) → List (DataW H) → Bool := fun _ ds => decide (uptoBulkAll ds ≤ 1048576)
def OpenSpec.upto (s : _root_.Go.ChangeSpec) : _root_.Go.OpenSpec := { _root_.Go.OpenSpec.ofChange s with cond := some uptoSmall }

/-- 'laws.FnExactCoverProgram', WHERE WHAT IT READS IS OF BULK AT MOST 1048576: true; the input reads as it did. -/
def fnExactCoverProgramUptoRow : OpenClaim := { program := "yteiaofkgbdlpoaadoor", sum := "1a43e165b34698661a993cdeac54d9aca667d28b3a15034d8dbc00cbc857cd9f", func := "loop.example/g01917/laws.FnExactCoverProgram", spec := "fnExactCoverProgram", named := ["loop.example/g01917/impl.oneRational"], apart := false, laid := [("loop.example/g01917/impl.oneRational", laid_loop_example_g01917_impl_oneRational)], narrowed := true }
def FnExactCoverProgramUptoSaid : Prop := fnExactCoverProgramUptoRow.holds Tryd.pinned (OpenSpec.upto fnExactCoverProgramSpec)

/-- 'laws.FnExactMinimumCover', WHERE WHAT IT READS IS OF BULK AT MOST 1048576: true; the input reads as it did. -/
def fnExactMinimumCoverUptoRow : OpenClaim := { program := "yteiaofkgbdlpoaadoor", sum := "1a43e165b34698661a993cdeac54d9aca667d28b3a15034d8dbc00cbc857cd9f", func := "loop.example/g01917/laws.FnExactMinimumCover", spec := "fnExactMinimumCover", unfollowed := true, recurses := true, named := ["loop.example/g01917/impl.oneRational"], apart := false, laid := [("loop.example/g01917/impl.oneRational", laid_loop_example_g01917_impl_oneRational)], narrowed := true }
def FnExactMinimumCoverUptoSaid : Prop := fnExactMinimumCoverUptoRow.holds Tryd.pinned (OpenSpec.upto fnExactMinimumCoverSpec)

/-- 'laws.FnExactMaximumPacking', WHERE WHAT IT READS IS OF BULK AT MOST 1048576: true; the input reads as it did. -/
def fnExactMaximumPackingUptoRow : OpenClaim := { program := "yteiaofkgbdlpoaadoor", sum := "1a43e165b34698661a993cdeac54d9aca667d28b3a15034d8dbc00cbc857cd9f", func := "loop.example/g01917/laws.FnExactMaximumPacking", spec := "fnExactMaximumPacking", unfollowed := true, recurses := true, named := ["loop.example/g01917/impl.oneRational"], apart := false, laid := [("loop.example/g01917/impl.oneRational", laid_loop_example_g01917_impl_oneRational)], narrowed := true }
def FnExactMaximumPackingUptoSaid : Prop := fnExactMaximumPackingUptoRow.holds Tryd.pinned (OpenSpec.upto fnExactMaximumPackingSpec)

end Rows
end Go.Proofs.YteiaofkgbdlpoaaDoor
