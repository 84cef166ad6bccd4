/- Cells behind new blocks, draws and stores elsewhere. -/
import Derived.Test.YtalfldflnacpeaaQ6
namespace Go.Proofs.Ytalfldflnacpeaa
set_option linter.unusedSimpArgs false
set_option linter.unusedVariables false
open Go.RowKit
/- Regions that draw their order, whose operations read and whose calls may make memory but change nothing that was there: one walk in the order of the text, in the class of the worlds that agree below. -/
/-- a world that holds below B what w0 holds -/
def Later (B : Nat) (w0 : World) : Type := {w' : World // Below B w0 w'}
/-- the world itself -/
def Later.w {B : Nat} {w0 : World} (x : Later B w0) : World := x.1
theorem Later.be {B : Nat} {w0 : World} (x : Later B w0) : Below B w0 x.w := x.2
instance (B : Nat) (w0 : World) : Nonempty (Later B w0) := ⟨⟨w0, Below.refl B w0⟩⟩
theorem Later.cell {B : Nat} {w0 : World} {b o : Nat} {v : Value} (h : w0.cell? ⟨b, o, none⟩ = some v) (hb : b < B) (x : Later B w0) : x.w.cell? ⟨b, o, none⟩ = some v := by
  rw [x.be.cell (p := ⟨b, o, none⟩) hb]; exact h
theorem Later.size {B : Nat} {w0 : World} (x : Later B w0) : w0.heap.size ≤ x.w.heap.size := x.be.size
end Go.Proofs.Ytalfldflnacpeaa
