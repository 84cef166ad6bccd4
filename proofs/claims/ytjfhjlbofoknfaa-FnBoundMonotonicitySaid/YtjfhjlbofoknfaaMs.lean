/- The world behind a variable, with what is known of it. -/
import Derived.Test.YtjfhjlbofoknfaaQT
import Derived.Test.YtjfhjlbofoknfaaCell
namespace Go.Proofs.Ytjfhjlbofoknfaa
set_option linter.unusedSimpArgs false
set_option linter.unusedVariables false
open Go.RowKit
theorem absC {P : Program} {f : FuncId} {args : Array Value} {w0 : World} {R : Ending → World → Prop} (F : World → Prop) (h : F w0) (k : ∀ W, F W → Calls P f args W R) : Calls P f args w0 R := k _ h
theorem absR {P : Program} {c : Code} {Q : Exit → Act → World → Prop} {a : Act} {w0 : World} (F : World → Prop) (h : F w0) (k : ∀ W, F W → c.wp P Q a W) : c.wp P Q a w0 := k _ h
theorem cset_off {w : World} {b o o' : Nat} {v : Value} (h : o ≠ o') : (w.setCell ⟨b, o, none⟩ v).cell? ⟨b, o', none⟩ = w.cell? ⟨b, o', none⟩ := World.cell?_setCell_other _ _ _ _ (by intro e; cases e; exact h rfl)
theorem absL {P : Program} {ops : Array Oper} {Q : Exit → Act → World → Prop} {l : List Oper} {a : Act} {w0 : World} (F : World → Prop) (h : F w0) (k : ∀ W, F W → wpList P ops Q l a W) : wpList P ops Q l a w0 := k _ h
/-- the walk halts here -/
def Halt' (p : Prop) : Prop := p
theorem halt' {p : Prop} (h : Halt' p) : p := h
theorem Keeps.al0 {lo hi : Nat} {w : World} (hh : hi ≤ w.heap.size) (o : Obj) : Keeps lo hi w (w.alloc o) := Keeps.al (Keeps.refl _ _ _) hh o
end Go.Proofs.Ytjfhjlbofoknfaa
