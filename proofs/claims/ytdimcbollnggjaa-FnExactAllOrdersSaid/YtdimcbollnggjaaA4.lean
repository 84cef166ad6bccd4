/- An atom as an argument of a law: its words in one form. -/
import Derived.Test.YtdimcbollnggjaaA1
namespace Go.Proofs.Ytdimcbollnggjaa
set_option linter.unusedSimpArgs false
set_option linter.unusedVariables false
open Go.RowKit
def AtomA (fz : Bool) (lo hi : Nat) (w : World) (s : ByteArray) (a : Option Addr) (n c : Nat) (xs : List Int) : Prop := s.size ≤ 9223372036854775807 ∧ IntsA fz lo hi w a n c xs
def szAtomD (s : ByteArray) (xs : List Int) : Nat := s.size + xs.length
section
variable {fz : Bool} {lo hi B lo' : Nat} {w w' : World} {s : ByteArray} {a : Option Addr} {n c : Nat} {xs : List Int}
theorem beAtom (h : AtomA fz lo hi w s a n c xs) (hb : Below B w w') (hh : hi ≤ B) : AtomA fz lo hi w' s a n c xs := ⟨h.1, beInts h.2 hb hh⟩
theorem kpAtom (h : AtomA fz lo hi w s a n c xs) (hb : Keeps lo hi w w') : AtomA fz lo hi w' s a n c xs := ⟨h.1, kpInts h.2 hb⟩
theorem wdAtom (h : AtomA fz lo hi w s a n c xs) (hl : lo' ≤ lo) : AtomA fz lo' hi w s a n c xs := ⟨h.1, wdInts h.2 hl⟩
end
def GvAtomK (w : World) (s : ByteArray) (xs : List Int) (e : Ending) (w' : World) : Prop := ∃ a n c, e = .returned (atomV s a n c) ∧ AtomA true w.heap.size w'.heap.size w' s a n c xs ∧ Below w.heap.size w w'
theorem toK_Atom {lo hi : Nat} (s : ByteArray) (a : Option Addr) (n c : Nat) (xs : List Int) (w : World) (hI : AtomA false lo hi w s a n c xs) (hh : hi ≤ w.heap.size) (hs : szAtomD s xs ≤ 1048576) :
    Calls Try.prog 32 #[atomV s a n c] w (GvAtomK w s xs) :=
  (toAtom1 s a n c xs w hI.2 hh (by unfold szAtomD at hs; omega)).mono fun _ _ ⟨a', n', c', h1, h2, h3⟩ => ⟨a', n', c', h1, ⟨hI.1, h2⟩, h3⟩
theorem szK_Atom {fz : Bool} {lo hi : Nat} (s : ByteArray) (a : Option Addr) (n c : Nat) (xs : List Int) (left : Int) (w : World) (hI : AtomA fz lo hi w s a n c xs) (hh : hi ≤ w.heap.size) (h0 : 0 ≤ left) (h1 : left ≤ 1048576) :
    Calls Try.prog 27 #[atomV s a n c, .int .i64 left] w (Leaves w (.int .i64 (szI (szAtomD s xs) left))) := szAtom1 s a n c xs left w hI.2 hh hI.1 h0 h1
theorem eqK_Atom {fz fz' : Bool} {lo hi lo' hi' : Nat} (s : ByteArray) (a a' : Option Addr) (n c n' c' : Nat) (xs : List Int) (w : World) (hI : AtomA fz lo hi w s a n c xs) (hh : hi ≤ w.heap.size) (hJ : AtomA fz' lo' hi' w s a' n' c' xs) (hh' : hi' ≤ w.heap.size) :
    Calls Try.prog 37 #[atomV s a n c, atomV s a' n' c'] w (Leaves w (.bool true)) := eqAtom1 s a a' n c n' c' xs w hI.2 hh hJ.2 hh'
end Go.Proofs.Ytdimcbollnggjaa
