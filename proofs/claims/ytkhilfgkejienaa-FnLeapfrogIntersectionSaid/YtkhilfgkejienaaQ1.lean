/- Walks: numbers within bounds, sets of numbers, permutations. -/
import Derived.Test.YtkhilfgkejienaaW3
namespace Go.Proofs.Ytkhilfgkejienaa
set_option linter.unusedSimpArgs false
set_option linter.unusedVariables false
open Go.RowKit
theorem IntsA.take {fz : Bool} {lo hi : Nat} {w : World} {a : Option Addr} {n c : Nat} {xs : List Int} (h : IntsA fz lo hi w a n c xs) {j : Nat} (hj : j ≤ n) : IntsA fz lo hi w a j c (xs.take j) := by
  obtain ⟨h1, h2, h3, h4, h5, h6⟩ := h
  refine ⟨by simp; omega, by omega, h3, fun z hz => h4 z (List.mem_of_mem_take hz), fun hn => ?_, h6⟩
  obtain ⟨b, off, ha, hl, hb, hc⟩ := h5 (by omega)
  refine ⟨b, off, ha, hl, hb, fun i hi => ?_⟩
  obtain ⟨g1, g2⟩ := hc i (by omega)
  refine ⟨?_, g2⟩
  rw [g1]; simp [ix, hi]
/-- the first k numbers lie from 0 to n - 1, and no two of them are equal -/
def SetTo (xs : List Int) (n : Int) (k : Nat) : Prop := ∀ i, i < k → (0 ≤ ix xs i ∧ ix xs i ≤ n - 1) ∧ ¬ 0 ≤ findF (xs.take i) (ix xs i)
open Classical in
noncomputable def setB (xs : List Int) (n : Int) : Bool := decide (SetTo xs n xs.length)
theorem setB_true {xs : List Int} {n : Int} (h : SetTo xs n xs.length) : setB xs n = true := by simp [setB, h]
theorem setB_false {xs : List Int} {n : Int} {i : Nat} (hi : i < xs.length) (h : ¬ ((0 ≤ ix xs i ∧ ix xs i ≤ n - 1) ∧ ¬ 0 ≤ findF (xs.take i) (ix xs i))) : setB xs n = false := by
  simp only [setB, decide_eq_false_iff_not]; intro hh; exact h (hh i hi)
theorem SetTo.succ {xs : List Int} {n : Int} {k : Nat} (h : SetTo xs n k) (h1 : (0 ≤ ix xs k ∧ ix xs k ≤ n - 1) ∧ ¬ 0 ≤ findF (xs.take k) (ix xs k)) : SetTo xs n (k + 1) := by
  intro i hi
  by_cases e : i = k
  · subst e; exact h1
  · exact h i (by omega)
/-- what IsPermutation returns -/
noncomputable def permB (xs : List Int) : Bool := decide (xs.length ≤ 5) && setB xs xs.length
end Go.Proofs.Ytkhilfgkejienaa
