/- Slices of atoms in one form. -/
import Derived.Test.YtfgkgjkgikghaaaA7
namespace Go.Proofs.Ytfgkgjkgikghaaa
set_option linter.unusedSimpArgs false
set_option linter.unusedVariables false
open Go.RowKit
section
variable {fz : Bool} {lo hi B lo' hi' : Nat} {w w' : World} {a : Option Addr} {n c : Nat} {xs : List AtomD}
theorem beAtoms (h : AtomsA fz lo hi w a n c xs) (hb : Below B w w') (hh : hi ≤ B) : AtomsA fz lo hi w' a n c xs := SlA.be atomOK h hb hh
theorem kpAtoms (h : AtomsA fz lo hi w a n c xs) (hb : Keeps lo hi w w') : AtomsA fz lo hi w' a n c xs := SlA.keep atomOK h hb
theorem wdAtoms (h : AtomsA fz lo hi w a n c xs) (hl : lo' ≤ lo) : AtomsA fz lo' hi w a n c xs := SlA.wide atomOK h hl (Nat.le_refl _)
theorem hgAtoms (h : AtomsA fz lo hi w a n c xs) (hl : hi ≤ hi') : AtomsA fz lo hi' w a n c xs := SlA.wide atomOK h (Nat.le_refl _) hl
theorem rdAtoms (h : AtomsA fz lo hi w a n c xs) : AtomsA false lo hi w a n c xs := SlA.read atomOK h
end
theorem toK_Atoms {lo hi : Nat} (a : Option Addr) (n c : Nat) (xs : List AtomD) (w : World) (hI : AtomsA false lo hi w a n c xs) (hh : hi ≤ w.heap.size) (hs : atomsSz xs ≤ 1048576) :
    Calls Try.prog 20 #[.slice a n c] w (GvAtoms w xs) := toAtoms a n c xs w hI hh hs
theorem szK_Atoms {fz : Bool} {lo hi : Nat} (a : Option Addr) (n c : Nat) (xs : List AtomD) (left : Int) (w : World) (hI : AtomsA fz lo hi w a n c xs) (hh : hi ≤ w.heap.size) (h0 : 0 ≤ left) (h1 : left ≤ 1048576) :
    Calls Try.prog 14 #[.slice a n c, .int .i64 left] w (Leaves w (.int .i64 (szI (atomsSz xs) left))) := szAtoms a n c xs left w hI hh h0 h1
theorem eqK_Atoms {fz fz' : Bool} {lo hi lo' hi' : Nat} (a a' : Option Addr) (n c n' c' : Nat) (xs : List AtomD) (w : World) (hI : AtomsA fz lo hi w a n c xs) (hh : hi ≤ w.heap.size) (hJ : AtomsA fz' lo' hi' w a' n' c' xs) (hh' : hi' ≤ w.heap.size) :
    Calls Try.prog 30 #[.slice a n c, .slice a' n' c'] w (Leaves w (.bool true)) := eqAtoms a a' n c n' c' xs w hI hh hJ hh'
end Go.Proofs.Ytfgkgjkgikghaaa
