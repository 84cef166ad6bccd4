/- Cells behind new blocks, draws and stores elsewhere. -/
import Derived.Test.YtalfldflnacpeaaQ7
namespace Go.Proofs.Ytalfldflnacpeaa
set_option linter.unusedSimpArgs false
set_option linter.unusedVariables false
open Go.RowKit
theorem calloc {w : World} {b o : Nat} (O : Obj) (h : b < w.heap.size) : (w.alloc O).cell? ⟨b, o, none⟩ = w.cell? ⟨b, o, none⟩ := World.cell?_of_block (w := w) (Below.heap_alloc _ _ _ h)
theorem falloc {w : World} {b o : Nat} (O : Obj) (h : b < w.heap.size) : (w.alloc O).frozen? ⟨b, o, none⟩ = w.frozen? ⟨b, o, none⟩ := World.frozen?_of_block (w := w) (Below.heap_alloc _ _ _ h)
theorem cdrewN (w : World) (k : Nat) (p : Addr) : (w.drewN k).cell? p = w.cell? p := rfl
theorem cdrew1 (w : World) (p : Addr) : w.drew.cell? p = w.cell? p := rfl
theorem fdrewN (w : World) (k : Nat) (p : Addr) : (w.drewN k).frozen? p = w.frozen? p := rfl
theorem fdrew1 (w : World) (p : Addr) : w.drew.frozen? p = w.frozen? p := rfl
theorem cset_far {w : World} {b o b' o' : Nat} {v : Value} (h : b ≠ b') : (w.setCell ⟨b, o, none⟩ v).cell? ⟨b', o', none⟩ = w.cell? ⟨b', o', none⟩ := by
  apply World.cell?_setCell_other
  intro e; cases e; exact h rfl
theorem sz_alloc (w : World) (O : Obj) : (w.alloc O).heap.size = w.heap.size + 1 := by simp
theorem sz_drewN (w : World) (k : Nat) : (w.drewN k).heap.size = w.heap.size := rfl
theorem sz_drew1 (w : World) : w.drew.heap.size = w.heap.size := rfl
theorem sz_set (w : World) (a : Addr) (v : Value) : (w.setCell a v).heap.size = w.heap.size := by simp [World.setCell]
theorem fset_any (w : World) (a b : Addr) (v : Value) : (w.setCell a v).frozen? b = w.frozen? b := by simp
end Go.Proofs.Ytalfldflnacpeaa
