/- The laws' own functions on Query: copying, measuring, comparing, marking. Written by structwalk.py. -/
import Derived.Test.YtalfldflnacpeaaA5
import Derived.Test.YtalfldflnacpeaaCell
namespace Go.Proofs.Ytalfldflnacpeaa
set_option linter.unusedSimpArgs false
set_option linter.unusedVariables false
open Go.RowKit
/-- the value of a struct -/
abbrev queryV (nv : Int) (a : Option Addr) (n : Nat) (c : Nat) (ua : Option Addr) (un : Nat) (uc : Nat) : Value := .agg #[.int .i64 nv, .slice a n c, .slice ua un uc]
/-- the datum behind it -/
def QueryA (fz : Bool) (lo hi : Nat) (w : World) (nv : Int) (a : Option Addr) (n : Nat) (c : Nat) (xs : List AtomD) (ua : Option Addr) (un : Nat) (uc : Nat) (us : List Int) : Prop := I64 nv ∧ AtomsA fz (lo) hi w a n c xs ∧ IntsA fz (lo) hi w ua un uc us
theorem beQuery {fz : Bool} {lo hi B : Nat} {w w' : World} {nv : Int} {a : Option Addr} {n : Nat} {c : Nat} {xs : List AtomD} {ua : Option Addr} {un : Nat} {uc : Nat} {us : List Int} (h : QueryA fz lo hi w nv a n c xs ua un uc us) (hb : Below B w w') (hh : hi ≤ B) : QueryA fz lo hi w' nv a n c xs ua un uc us := ⟨h.1, beAtoms h.2.1 hb hh, beInts h.2.2 hb hh⟩
def szQuery (xs : List AtomD) (us : List Int) : Nat := atomsSz xs + us.length
def cntQuery (xs : List AtomD) (us : List Int) : Nat := atomCnt xs xs.length + us.length
def GvQuery (w : World) (nv : Int) (xs : List AtomD) (us : List Int) (e : Ending) (w' : World) : Prop := ∃ a n c ua un uc, e = .returned (queryV nv a n c ua un uc) ∧ QueryA true w.heap.size w'.heap.size w' nv a n c xs ua un uc us ∧ Below w.heap.size w w'
/- Walks: marking a query. -/
end Go.Proofs.Ytalfldflnacpeaa
