/- Opening a level: as its law reads it. -/
import Derived.Test.YthochdlbmaiclaaIC9
import Derived.Test.YthochdlbmaiclaaItO
namespace Go.Proofs.Ythochdlbmaiclaa
set_option linter.unusedSimpArgs false
set_option linter.unusedVariables false
open Go.RowKit
def GvItR (w : World) (ar : Int) (rows : List (List Int)) (lw gh ps : List Int) (ok : Bool) (e : Ending) (w' : World) : Prop :=
  ∃ a n c la ln lc ga gn gc pa pn pc, e = .returned (.tuple #[iterV ar a n c la ln lc ga gn gc pa pn pc, .bool ok]) ∧ IterA true w.heap.size w'.heap.size w' ar a n c rows la ln lc lw ga gn gc gh pa pn pc ps ∧ Below w.heap.size w w'
theorem GvItB.read {w : World} {ar : Int} {rows : List (List Int)} {lw gh ps : List Int} {ok : Bool} {e : Ending} {w' : World} (h : GvItB w ar rows lw gh ps ok e w') : GvItR w ar rows lw gh ps ok e w' := by
  obtain ⟨a, n, c, la, ln, lc, ga, gn, gc, pa, pn, pc, h1, h2, h3⟩ := h
  exact ⟨a, n, c, la, ln, lc, ga, gn, gc, pa, pn, pc, h1, h2.it, h3⟩
/-- the number and the rows as they are -/
def sameN (x : Int) : Int := x
def sameR (x : List (List Int)) : List (List Int) := x
noncomputable def opLw (ar : Int) (rows : List (List Int)) (lw gh ps : List Int) : List Int := opT (opOK ar rows lw gh ps) lw (bnd rows ps ps.length).1
noncomputable def opGh (ar : Int) (rows : List (List Int)) (lw gh ps : List Int) : List Int := opT (opOK ar rows lw gh ps) gh (bnd rows ps ps.length).2
noncomputable def opPs (ar : Int) (rows : List (List Int)) (lw gh ps : List Int) : List Int := opT (opOK ar rows lw gh ps) ps (bnd rows ps ps.length).1
theorem opT_len (b : Bool) (xs : List Int) (v : Nat) : (opT b xs v).length ≤ xs.length + 1 := by
  unfold opT; split
  · simp
  · omega
theorem op_sz (ar : Int) (rows : List (List Int)) (lw gh ps : List Int) (h : szIter rows lw gh ps ≤ 1048576) : SzO (sameR rows) (opLw ar rows lw gh ps) (opGh ar rows lw gh ps) (opPs ar rows lw gh ps) := by
  by_cases hok : opOK ar rows lw gh ps = true
  · have hv : validIt ar rows lw gh ps = true := by simp [opOK] at hok; exact hok.1
    have hv2 := validIt_out hv
    have e1 := opT_len (opOK ar rows lw gh ps) lw (bnd rows ps ps.length).1
    have e2 := opT_len (opOK ar rows lw gh ps) gh (bnd rows ps ps.length).2
    have e3 := opT_len (opOK ar rows lw gh ps) ps (bnd rows ps ps.length).1
    have g1 := hv2.2.1; have g2 := hv2.2.2.1
    unfold SzO opLw opGh opPs sameR
    unfold szIter at *
    unfold rowsSz at *
    omega
  · have hno : opOK ar rows lw gh ps = false := by simpa using hok
    unfold SzO opLw opGh opPs sameR
    rw [hno, opT_no, opT_no, opT_no]
    unfold szIter at *
    unfold rowsSz at *
    omega
theorem implOpen' {fz : Bool} {lo hi : Nat} (ar : Int) (a : Option Addr) (n c : Nat) (rows : List (List Int)) (la : Option Addr) (ln lc : Nat) (lw : List Int) (ga : Option Addr) (gn gc : Nat) (gh : List Int) (pa : Option Addr) (pn pc : Nat) (ps : List Int) (w : World) (hI : IterA fz lo hi w ar a n c rows la ln lc lw ga gn gc gh pa pn pc ps) (hh : hi ≤ w.heap.size) (hs : szIter rows lw gh ps ≤ 1048576) :
    Calls Try.prog 26 #[iterV ar a n c la ln lc ga gn gc pa pn pc] w (GvItB w (sameN ar) (sameR rows) (opLw ar rows lw gh ps) (opGh ar rows lw gh ps) (opPs ar rows lw gh ps) (opOK ar rows lw gh ps)) := implOpen ar a n c rows la ln lc lw ga gn gc gh pa pn pc ps w hI hh hs
theorem specOpen' {fz : Bool} {lo hi : Nat} (ar : Int) (a : Option Addr) (n c : Nat) (rows : List (List Int)) (la : Option Addr) (ln lc : Nat) (lw : List Int) (ga : Option Addr) (gn gc : Nat) (gh : List Int) (pa : Option Addr) (pn pc : Nat) (ps : List Int) (w : World) (hI : IterA fz lo hi w ar a n c rows la ln lc lw ga gn gc gh pa pn pc ps) (hh : hi ≤ w.heap.size) (hs : szIter rows lw gh ps ≤ 1048576) :
    Calls Try.prog 25 #[iterV ar a n c la ln lc ga gn gc pa pn pc] w (GvItR w (sameN ar) (sameR rows) (opLw ar rows lw gh ps) (opGh ar rows lw gh ps) (opPs ar rows lw gh ps) (opOK ar rows lw gh ps)) := (specOpen ar a n c rows la ln lc lw ga gn gc gh pa pn pc ps w hI hh hs).mono fun _ _ h => h.read
end Go.Proofs.Ythochdlbmaiclaa
