/- An atom as an argument of a law: its words in one form. -/
import Derived.Test.YtalfldflnacpeaaA1
namespace Go.Proofs.Ytalfldflnacpeaa
set_option linter.unusedSimpArgs false
set_option linter.unusedVariables false
open Go.RowKit
def AtomA (fz : Bool) (lo hi : Nat) (w : World) (s : ByteArray) (a : Option Addr) (n c : Nat) (xs : List Int) : Prop := s.size ≤ 9223372036854775807 ∧ IntsA fz lo hi w a n c xs
def szAtomD (s : ByteArray) (xs : List Int) : Nat := s.size + xs.length
section
variable {fz : Bool} {lo hi B lo' : Nat} {w w' : World} {s : ByteArray} {a : Option Addr} {n c : Nat} {xs : List Int}
theorem beAtom (h : AtomA fz lo hi w s a n c xs) (hb : Below B w w') (hh : hi ≤ B) : AtomA fz lo hi w' s a n c xs := ⟨h.1, beInts h.2 hb hh⟩
theorem kpAtom (h : AtomA fz lo hi w s a n c xs) (hb : Keeps lo hi w w') : AtomA fz lo hi w' s a n c xs := ⟨h.1, kpInts h.2 hb⟩
theorem wdAtom (h : AtomA fz lo hi w s a n c xs) (hl : lo' ≤ lo) : AtomA fz lo' hi w s a n c xs := ⟨h.1, wdInts h.2 hl⟩
end
def GvAtomK (w : World) (s : ByteArray) (xs : List Int) (e : Ending) (w' : World) : Prop := ∃ a n c, e = .returned (atomV s a n c) ∧ AtomA true w.heap.size w'.heap.size w' s a n c xs ∧ Below w.heap.size w w'
end Go.Proofs.Ytalfldflnacpeaa
