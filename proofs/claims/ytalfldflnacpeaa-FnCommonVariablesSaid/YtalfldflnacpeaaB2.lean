/- Valid queries: the plain law. -/
import Derived.Test.YtalfldflnacpeaaA2
import Derived.Test.YtalfldflnacpeaaB1
import Derived.Test.YtalfldflnacpeaaPg
namespace Go.Proofs.Ytalfldflnacpeaa
set_option linter.unusedSimpArgs false
set_option linter.unusedVariables false
open Go.RowKit
/-- an atom is valid for so many variables -/
def AtomOK (nv : Int) (x : AtomD) : Prop := nameOK x.nm = true ∧ (1 ≤ x.vs.length ∧ x.vs.length ≤ 5) ∧ ∀ j, j < x.vs.length → 0 ≤ ix x.vs j ∧ ix x.vs j ≤ nv - 1
def HeadOK (nv : Int) (n : Nat) : Prop := (1 ≤ nv ∧ nv ≤ 5) ∧ 1 ≤ n ∧ n ≤ 4
def CovOK (nv : Int) (xs : List AtomD) : Prop := ∀ v : Nat, (v : Int) < nv → ∃ i, i < xs.length ∧ occ (ax xs i).vs v = true
open Classical in
/-- what IsValidQuery returns -/
noncomputable def qOK (nv : Int) (xs : List AtomD) (us : List Int) : Bool :=
  decide (HeadOK nv xs.length ∧ SetTo us nv us.length ∧ (∀ i, i < xs.length → AtomOK nv (ax xs i)) ∧ CovOK nv xs)
section
variable {nv : Int} {xs : List AtomD} {us : List Int}
theorem qOK_yes (h1 : HeadOK nv xs.length) (h2 : SetTo us nv us.length) (h3 : ∀ i, i < xs.length → AtomOK nv (ax xs i)) (h4 : CovOK nv xs) : qOK nv xs us = true := by
  simp only [qOK, decide_eq_true_eq]; exact ⟨h1, h2, h3, h4⟩
theorem qOK_out (h : qOK nv xs us = true) : HeadOK nv xs.length ∧ SetTo us nv us.length ∧ (∀ i, i < xs.length → AtomOK nv (ax xs i)) ∧ CovOK nv xs := by
  simpa only [qOK, decide_eq_true_eq] using h
theorem qOK_head (h : ¬ HeadOK nv xs.length) : qOK nv xs us = false := by simp only [qOK, decide_eq_false_iff_not]; exact fun g => h g.1
theorem qOK_set (h : ¬ SetTo us nv us.length) : qOK nv xs us = false := by simp only [qOK, decide_eq_false_iff_not]; exact fun g => h g.2.1
theorem qOK_atom {i : Nat} (hi : i < xs.length) (h : ¬ AtomOK nv (ax xs i)) : qOK nv xs us = false := by simp only [qOK, decide_eq_false_iff_not]; exact fun g => h (g.2.2.1 i hi)
theorem qOK_cov (h : ¬ CovOK nv xs) : qOK nv xs us = false := by simp only [qOK, decide_eq_false_iff_not]; exact fun g => h g.2.2.2
theorem qOK_long (h0 : 0 ≤ nv) (h : ¬ (us.length : Int) ≤ nv) : qOK nv xs us = false := by
  refine qOK_set (fun g => h ?_)
  obtain ⟨n, rfl⟩ := Int.eq_ofNat_of_zero_le h0
  have := set_len g; omega
end
end Go.Proofs.Ytalfldflnacpeaa
