/- The laws' own functions on Query: copying, measuring, comparing, marking. Written by structwalk.py. -/
import Derived.Test.YtalfldflnacpeaaA5
import Derived.Test.YtalfldflnacpeaaLater
namespace Go.Proofs.Ytalfldflnacpeaa
set_option linter.unusedSimpArgs false
set_option linter.unusedVariables false
open Go.RowKit
/-- the value of a struct -/
abbrev queryV (nv : Int) (a : Option Addr) (n : Nat) (c : Nat) (ua : Option Addr) (un : Nat) (uc : Nat) : Value := .agg #[.int .i64 nv, .slice a n c, .slice ua un uc]
/-- the datum behind it -/
def QueryA (fz : Bool) (lo hi : Nat) (w : World) (nv : Int) (a : Option Addr) (n : Nat) (c : Nat) (xs : List AtomD) (ua : Option Addr) (un : Nat) (uc : Nat) (us : List Int) : Prop := I64 nv ∧ AtomsA fz (lo) hi w a n c xs ∧ IntsA fz (lo) hi w ua un uc us
theorem beQuery {fz : Bool} {lo hi B : Nat} {w w' : World} {nv : Int} {a : Option Addr} {n : Nat} {c : Nat} {xs : List AtomD} {ua : Option Addr} {un : Nat} {uc : Nat} {us : List Int} (h : QueryA fz lo hi w nv a n c xs ua un uc us) (hb : Below B w w') (hh : hi ≤ B) : QueryA fz lo hi w' nv a n c xs ua un uc us := ⟨h.1, beAtoms h.2.1 hb hh, beInts h.2.2 hb hh⟩
theorem kpQuery {fz : Bool} {lo hi : Nat} {w w' : World} {nv : Int} {a : Option Addr} {n : Nat} {c : Nat} {xs : List AtomD} {ua : Option Addr} {un : Nat} {uc : Nat} {us : List Int} (h : QueryA fz lo hi w nv a n c xs ua un uc us) (hb : Keeps lo hi w w') : QueryA fz lo hi w' nv a n c xs ua un uc us := ⟨h.1, kpAtoms h.2.1 hb, kpInts h.2.2 hb⟩
theorem wdQuery {fz : Bool} {lo hi lo' : Nat} {w : World} {nv : Int} {a : Option Addr} {n : Nat} {c : Nat} {xs : List AtomD} {ua : Option Addr} {un : Nat} {uc : Nat} {us : List Int} (h : QueryA fz lo hi w nv a n c xs ua un uc us) (hl : lo' ≤ lo) : QueryA fz lo' hi w nv a n c xs ua un uc us := ⟨h.1, wdAtoms h.2.1 hl, wdInts h.2.2 hl⟩
theorem hgQuery {fz : Bool} {lo hi hi' : Nat} {w : World} {nv : Int} {a : Option Addr} {n : Nat} {c : Nat} {xs : List AtomD} {ua : Option Addr} {un : Nat} {uc : Nat} {us : List Int} (h : QueryA fz lo hi w nv a n c xs ua un uc us) (hl : hi ≤ hi') : QueryA fz lo hi' w nv a n c xs ua un uc us := ⟨h.1, hgAtoms h.2.1 hl, hgInts h.2.2 hl⟩
theorem rdQuery {fz : Bool} {lo hi : Nat} {w : World} {nv : Int} {a : Option Addr} {n : Nat} {c : Nat} {xs : List AtomD} {ua : Option Addr} {un : Nat} {uc : Nat} {us : List Int} (h : QueryA fz lo hi w nv a n c xs ua un uc us) : QueryA false lo hi w nv a n c xs ua un uc us := ⟨h.1, rdAtoms h.2.1, rdInts h.2.2⟩
def szQuery (xs : List AtomD) (us : List Int) : Nat := atomsSz xs + us.length
def cntQuery (xs : List AtomD) (us : List Int) : Nat := atomCnt xs xs.length + us.length
def GvQuery (w : World) (nv : Int) (xs : List AtomD) (us : List Int) (e : Ending) (w' : World) : Prop := ∃ a n c ua un uc, e = .returned (queryV nv a n c ua un uc) ∧ QueryA true w.heap.size w'.heap.size w' nv a n c xs ua un uc us ∧ Below w.heap.size w w'
/- Walks: marking a query. -/
theorem cntQuery_le (xs : List AtomD) (us : List Int) : cntQuery xs us ≤ szQuery xs us := by
  have := atomCnt_le xs xs.length
  unfold cntQuery szQuery atomsSz; omega
end Go.Proofs.Ytalfldflnacpeaa
