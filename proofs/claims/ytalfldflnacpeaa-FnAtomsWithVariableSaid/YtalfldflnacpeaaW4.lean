/- Walks over lists of lists: the shortest length, comparing, the test that all are ascending, copying. -/
import Derived.Test.YtalfldflnacpeaaW1
namespace Go.Proofs.Ytalfldflnacpeaa
set_option linter.unusedSimpArgs false
set_option linter.unusedVariables false
open Go.RowKit

/-- the least length among the first k rows; 0 if k is 0 -/
def shTo (xss : List (List Int)) : Nat → Nat
  | 0 => 0
  | k + 1 => if k = 0 ∨ (rx xss k).length < shTo xss k then (rx xss k).length else shTo xss k
theorem shTo_take {xss : List (List Int)} {k : Nat} (h : k = 0 ∨ (rx xss k).length < shTo xss k) : shTo xss (k + 1) = (rx xss k).length := by simp only [shTo]; rw [if_pos h]
theorem shTo_keep {xss : List (List Int)} {k : Nat} (h : ¬ (k = 0 ∨ (rx xss k).length < shTo xss k)) : shTo xss (k + 1) = shTo xss k := by simp only [shTo]; rw [if_neg h]
/-- the length of the shortest row -/
def shF (xss : List (List Int)) : Int := (shTo xss xss.length : Nat)

def eqLL (xs ys : List (List Int)) : Bool := decide (xs = ys)
theorem rx_ext {xs ys : List (List Int)} (hl : xs.length = ys.length) (h : ∀ i, i < xs.length → rx xs i = rx ys i) : xs = ys :=
  List.ext_getElem hl fun i h1 h2 => by have := h i h1; rwa [rx_lt h1, rx_lt h2] at this
theorem eqLL_len {xs ys : List (List Int)} (h : xs.length ≠ ys.length) : eqLL xs ys = false := by simp only [eqLL, decide_eq_false_iff_not]; rintro rfl; exact h rfl
theorem eqLL_ne {xs ys : List (List Int)} {i : Nat} (h : rx xs i ≠ rx ys i) : eqLL xs ys = false := by simp only [eqLL, decide_eq_false_iff_not]; rintro rfl; exact h rfl
theorem eqLL_true {xs ys : List (List Int)} (hl : xs.length = ys.length) (h : ∀ i, i < xs.length → rx xs i = rx ys i) : eqLL xs ys = true := by simp [eqLL, rx_ext hl h]
theorem eqLL_refl (xs : List (List Int)) : eqLL xs xs = true := by simp [eqLL]
theorem eqL_refl (xs : List Int) : eqL xs xs = true := by simp [eqL]
theorem eqL_yes {xs ys : List Int} (h : eqL xs ys = true) : xs = ys := by simpa [eqL] using h
theorem eqL_no {xs ys : List Int} (h : eqL xs ys = false) : xs ≠ ys := by simpa [eqL] using h

/-- all rows are ascending and there is one -/
noncomputable def ascAll (xss : List (List Int)) : Bool := @decide (0 < xss.length ∧ ∀ i, i < xss.length → ascB (rx xss i) = true) (Classical.propDecidable _)
theorem ascAll_no {xss : List (List Int)} {i : Nat} (hi : i < xss.length) (h : ascB (rx xss i) = false) : ascAll xss = false := by
  simp only [ascAll, decide_eq_false_iff_not]; rintro ⟨_, g⟩; have := g i hi; rw [h] at this; cases this
theorem ascAll_end {xss : List (List Int)} {n : Nat} (hn : xss.length = n) (h : ∀ i, i < n → ascB (rx xss i) = true) : ascAll xss = decide ((0 : Int) < n) := by
  subst hn
  rw [Bool.eq_iff_iff]; simp only [ascAll, decide_eq_true_eq]
  exact ⟨fun g => by omega, fun g => ⟨by omega, h⟩⟩

end Go.Proofs.Ytalfldflnacpeaa
