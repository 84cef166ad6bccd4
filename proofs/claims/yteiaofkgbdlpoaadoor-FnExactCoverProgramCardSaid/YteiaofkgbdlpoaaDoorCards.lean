/-
  DERIVED. GIVEN WITH THE SEED: THE CARDS: each row of YteiaofkgbdlpoaaDoorRows.lean that lists a variable, with what it lists TIED to the program's text (the seventh form; the later family's looks); each row that meets fmt, with fmt's text TOLD by the authors' own Lean function (tested against real Go, not proved from fmt's source: count such statements apart). THE CARD IS WHAT COUNTS. Prove the row's statement (the work); the ties are given (YteiaofkgbdlpoaaDoorTie.lean); close each card by the builder's one call (the guide's Derived/Test/ToyasCard.lean, 'card_holds'). Laid BY PROGRAM, IN A SANDBOX (cutbox-door.mjs). By AI agents, Wed Nov 11 2026. No macro, syntax, notation, axiom, sorry.
-/
import Derived.Test.YteiaofkgbdlpoaaDoorRows
import GoSem.ClaimSeven
namespace Go.Proofs.YteiaofkgbdlpoaaDoor
namespace Rows

/-- THE TIED CARD OF 'laws.FnExactCoverProgram'. -/
def fnExactCoverProgramCard : Claim7 := { stood := { row := fnExactCoverProgramRow, standIns := [], harness := (true, "d27e95a6257cda4107d1d5221ec07d25b9e424f317ba9309649bb67f82fa79a6"), looks := false }, kinds := [], alts := [], laidByText := true, laidKinds := [.data], laidTests := true, laidLooks := .later }
def FnExactCoverProgramCardSaid : Prop := Claim7.holds Tryd.pinned (.plain (OpenSpec.ofChange fnExactCoverProgramSpec)) fnExactCoverProgramCard

/-- THE TIED CARD OF 'laws.FnExactMinimumCover'. -/
def fnExactMinimumCoverCard : Claim7 := { stood := { row := fnExactMinimumCoverRow, standIns := [], harness := (true, "d27e95a6257cda4107d1d5221ec07d25b9e424f317ba9309649bb67f82fa79a6"), looks := false }, kinds := [], alts := [], laidByText := true, laidKinds := [.data], laidTests := true, laidLooks := .later }
def FnExactMinimumCoverCardSaid : Prop := Claim7.holds Tryd.pinned (.plain (OpenSpec.ofChange fnExactMinimumCoverSpec)) fnExactMinimumCoverCard

/-- THE TIED CARD OF 'laws.FnExactMaximumPacking'. -/
def fnExactMaximumPackingCard : Claim7 := { stood := { row := fnExactMaximumPackingRow, standIns := [], harness := (true, "d27e95a6257cda4107d1d5221ec07d25b9e424f317ba9309649bb67f82fa79a6"), looks := false }, kinds := [], alts := [], laidByText := true, laidKinds := [.data], laidTests := true, laidLooks := .later }
def FnExactMaximumPackingCardSaid : Prop := Claim7.holds Tryd.pinned (.plain (OpenSpec.ofChange fnExactMaximumPackingSpec)) fnExactMaximumPackingCard

/-- THE SECOND FORM's CARD OF 'laws.FnExactCoverProgram'. -/
def fnExactCoverProgramUptoCard : Claim7 := { stood := { row := fnExactCoverProgramUptoRow, standIns := [], harness := (true, "d27e95a6257cda4107d1d5221ec07d25b9e424f317ba9309649bb67f82fa79a6"), looks := false }, kinds := [], alts := [], laidByText := true, laidKinds := [.data], laidTests := true, laidLooks := .later }
def FnExactCoverProgramUptoCardSaid : Prop := Claim7.holds Tryd.pinned (.plain (OpenSpec.upto fnExactCoverProgramSpec)) fnExactCoverProgramUptoCard

/-- THE SECOND FORM's CARD OF 'laws.FnExactMinimumCover'. -/
def fnExactMinimumCoverUptoCard : Claim7 := { stood := { row := fnExactMinimumCoverUptoRow, standIns := [], harness := (true, "d27e95a6257cda4107d1d5221ec07d25b9e424f317ba9309649bb67f82fa79a6"), looks := false }, kinds := [], alts := [], laidByText := true, laidKinds := [.data], laidTests := true, laidLooks := .later }
def FnExactMinimumCoverUptoCardSaid : Prop := Claim7.holds Tryd.pinned (.plain (OpenSpec.upto fnExactMinimumCoverSpec)) fnExactMinimumCoverUptoCard

/-- THE SECOND FORM's CARD OF 'laws.FnExactMaximumPacking'. -/
def fnExactMaximumPackingUptoCard : Claim7 := { stood := { row := fnExactMaximumPackingUptoRow, standIns := [], harness := (true, "d27e95a6257cda4107d1d5221ec07d25b9e424f317ba9309649bb67f82fa79a6"), looks := false }, kinds := [], alts := [], laidByText := true, laidKinds := [.data], laidTests := true, laidLooks := .later }
def FnExactMaximumPackingUptoCardSaid : Prop := Claim7.holds Tryd.pinned (.plain (OpenSpec.upto fnExactMaximumPackingSpec)) fnExactMaximumPackingUptoCard
end Rows
end Go.Proofs.YteiaofkgbdlpoaaDoor
