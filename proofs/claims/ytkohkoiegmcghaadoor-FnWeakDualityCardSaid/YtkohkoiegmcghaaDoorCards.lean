/-
  DERIVED. GIVEN WITH THE SEED: THE CARDS: each row of YtkohkoiegmcghaaDoorRows.lean that lists a variable, with what it lists TIED to the program's text (the seventh form; the later family's looks); each row that meets fmt, with fmt's text TOLD by the authors' own Lean function (tested against real Go, not proved from fmt's source: count such statements apart). THE CARD IS WHAT COUNTS. Prove the row's statement (the work); the ties are given (YtkohkoiegmcghaaDoorTie.lean); close each card by the builder's one call (the guide's Derived/Test/ToyasCard.lean, 'card_holds'). Laid BY PROGRAM, IN A SANDBOX (cutbox-door.mjs). By AI agents, Wed Nov 11 2026. No macro, syntax, notation, axiom, sorry.
-/
import Derived.Test.YtkohkoiegmcghaaDoorRows
import GoSem.ClaimSeven
namespace Go.Proofs.YtkohkoiegmcghaaDoor
namespace Rows

/-- THE TIED CARD OF 'laws.FnWeakDuality'. -/
def fnWeakDualityCard : Claim7 := { stood := { row := fnWeakDualityRow, standIns := [], harness := (true, "6c7b48c1a3076f214673f459701c3453f3ee3af4f938afd4b7bede56a453e71f"), looks := false }, kinds := [], alts := [], laidByText := true, laidKinds := [.data], laidTests := true, laidLooks := .later }
def FnWeakDualityCardSaid : Prop := Claim7.holds Tryd.pinned (.plain (OpenSpec.ofChange fnWeakDualitySpec)) fnWeakDualityCard

/-- THE TIED CARD OF 'laws.FnCoverDuality'. -/
def fnCoverDualityCard : Claim7 := { stood := { row := fnCoverDualityRow, standIns := [], harness := (true, "6c7b48c1a3076f214673f459701c3453f3ee3af4f938afd4b7bede56a453e71f"), looks := false }, kinds := [], alts := [], laidByText := true, laidKinds := [.data], laidTests := true, laidLooks := .later }
def FnCoverDualityCardSaid : Prop := Claim7.holds Tryd.pinned (.plain (OpenSpec.ofChange fnCoverDualitySpec)) fnCoverDualityCard

/-- THE SECOND FORM's CARD OF 'laws.FnWeakDuality'. -/
def fnWeakDualityUptoCard : Claim7 := { stood := { row := fnWeakDualityUptoRow, standIns := [], harness := (true, "6c7b48c1a3076f214673f459701c3453f3ee3af4f938afd4b7bede56a453e71f"), looks := false }, kinds := [], alts := [], laidByText := true, laidKinds := [.data], laidTests := true, laidLooks := .later }
def FnWeakDualityUptoCardSaid : Prop := Claim7.holds Tryd.pinned (.plain (OpenSpec.upto fnWeakDualitySpec)) fnWeakDualityUptoCard

/-- THE SECOND FORM's CARD OF 'laws.FnCoverDuality'. -/
def fnCoverDualityUptoCard : Claim7 := { stood := { row := fnCoverDualityUptoRow, standIns := [], harness := (true, "6c7b48c1a3076f214673f459701c3453f3ee3af4f938afd4b7bede56a453e71f"), looks := false }, kinds := [], alts := [], laidByText := true, laidKinds := [.data], laidTests := true, laidLooks := .later }
def FnCoverDualityUptoCardSaid : Prop := Claim7.holds Tryd.pinned (.plain (OpenSpec.upto fnCoverDualitySpec)) fnCoverDualityUptoCard
end Rows
end Go.Proofs.YtkohkoiegmcghaaDoor
