/- NewIterator as its law reads it. -/
import Derived.Test.YthochdlbmaiclaaIC5
namespace Go.Proofs.Ythochdlbmaiclaa
set_option linter.unusedSimpArgs false
set_option linter.unusedVariables false
open Go.RowKit
def GvItR (w : World) (ar : Int) (rows : List (List Int)) (lw gh ps : List Int) (ok : Bool) (e : Ending) (w' : World) : Prop :=
  ∃ a n c la ln lc ga gn gc pa pn pc, e = .returned (.tuple #[iterV ar a n c la ln lc ga gn gc pa pn pc, .bool ok]) ∧ IterA true w.heap.size w'.heap.size w' ar a n c rows la ln lc lw ga gn gc gh pa pn pc ps ∧ Below w.heap.size w w'
theorem GvItB.read {w : World} {ar : Int} {rows : List (List Int)} {lw gh ps : List Int} {ok : Bool} {e : Ending} {w' : World} (h : GvItB w ar rows lw gh ps ok e w') : GvItR w ar rows lw gh ps ok e w' := by
  obtain ⟨a, n, c, la, ln, lc, ga, gn, gc, pa, pn, pc, h1, h2, h3⟩ := h
  exact ⟨a, n, c, la, ln, lc, ga, gn, gc, pa, pn, pc, h1, h2.it, h3⟩
def niE (_ : Nat) : List Int := []
theorem ni_sz (ar : Int) (rows : List (List Int)) (h : rowsSz rows ≤ 1048576) : szIter (niRows ar rows) (niE 0) (niE 1) (niE 2) ≤ 1048576 := by
  unfold niRows niE
  split
  · simp [szIter]; omega
  · simp [szIter, rowsSz, lens]
theorem implNewIt' {fz : Bool} {lo hi : Nat} (ar : Int) (a : Option Addr) (n c : Nat) (rows : List (List Int)) (w : World) (hI : TrieA fz lo hi w ar a n c rows) (hh : hi ≤ w.heap.size) (hs : rowsSz rows ≤ 1048576) :
    Calls Try.prog 11 #[trieV ar a n c] w (GvItB w (niAr ar rows) (niRows ar rows) (niE 0) (niE 1) (niE 2) (validR ar rows)) := implNewIt ar a n c rows w hI.2 hh hI.1 hs
theorem specNewIt' {fz : Bool} {lo hi : Nat} (ar : Int) (a : Option Addr) (n c : Nat) (rows : List (List Int)) (w : World) (hI : TrieA fz lo hi w ar a n c rows) (hh : hi ≤ w.heap.size) (hs : rowsSz rows ≤ 1048576) :
    Calls Try.prog 9 #[trieV ar a n c] w (GvItR w (niAr ar rows) (niRows ar rows) (niE 0) (niE 1) (niE 2) (validR ar rows)) := (specNewIt ar a n c rows w hI.2 hh hI.1 hs).mono fun _ _ h => h.read
end Go.Proofs.Ythochdlbmaiclaa
