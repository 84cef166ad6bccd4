/- Scaling rational numbers to integers: the plain law. -/
import Derived.Test.YtjfhjlbofoknfaaR2
import Derived.Test.YtjfhjlbofoknfaaR6
namespace Go.Proofs.Ytjfhjlbofoknfaa
set_option linter.unusedSimpArgs false
set_option linter.unusedVariables false
open Go.RowKit
/-- the common denominator of the first k numbers -/
def scTo (xs : List RatD) : Nat → Nat
  | 0 => 1
  | k + 1 => scTo xs k / Nat.gcd (scTo xs k) (qx xs k).den.toNat * (qx xs k).den.toNat
/-- a number is valid and not below 0 -/
def scV (x : RatD) : Bool := ratOK x.num x.den && decide (0 ≤ x.num)
open Classical in
noncomputable def scOK (xs : List RatD) : Bool := decide ((∀ k, k < xs.length → scV (qx xs k) = true) ∧ ∀ k, k ≤ xs.length → scTo xs k ≤ 1000)
noncomputable def scD (xs : List RatD) : Nat := if scOK xs = true then scTo xs xs.length else 0
/-- the numerators of the first k numbers over the denominator d -/
def scL (xs : List RatD) (d : Nat) : Nat → List Int
  | 0 => []
  | k + 1 => scL xs d k ++ [(qx xs k).num * ((d : Int) / (qx xs k).den)]
noncomputable def scF (xs : List RatD) : List Int := if scOK xs = true then scL xs (scTo xs xs.length) xs.length else []
theorem scL_len (xs : List RatD) (d k : Nat) : (scL xs d k).length = k := by
  induction k with
  | zero => rfl
  | succ k ih => simp [scL, ih]
theorem scF_len (xs : List RatD) : (scF xs).length ≤ xs.length := by
  unfold scF; split
  · rw [scL_len]; exact Nat.le_refl _
  · simp
theorem scOK_bad {xs : List RatD} {k : Nat} (hk : k < xs.length) (h : scV (qx xs k) = false) : scOK xs = false := by
  simp only [scOK, decide_eq_false_iff_not]; intro g; have := g.1 k hk; rw [h] at this; cases this
theorem scOK_big {xs : List RatD} {k : Nat} (hk : k ≤ xs.length) (h : ¬ scTo xs k ≤ 1000) : scOK xs = false := by
  simp only [scOK, decide_eq_false_iff_not]; exact fun g => h (g.2 k hk)
theorem scOK_mk {xs : List RatD} (h1 : ∀ k, k < xs.length → scV (qx xs k) = true) (h2 : ∀ k, k ≤ xs.length → scTo xs k ≤ 1000) : scOK xs = true := by
  simp only [scOK, decide_eq_true_eq]; exact ⟨h1, h2⟩
theorem scV_out {x : RatD} (h : scV x = true) : (1 ≤ x.den ∧ x.den ≤ 1000000000) ∧ (0 ≤ x.num ∧ x.num ≤ 1000000000) := by
  simp only [scV, Bool.and_eq_true, decide_eq_true_eq] at h
  have := ratOK_out h.1
  exact ⟨this.1, h.2, this.2.1.2⟩
theorem scF_no {xs : List RatD} (h : scOK xs = false) : scF xs = [] ∧ scD xs = 0 := by simp [scF, scD, h]
theorem scF_yes {xs : List RatD} (h : scOK xs = true) : scF xs = scL xs (scTo xs xs.length) xs.length ∧ scD xs = scTo xs xs.length := by simp [scF, scD, h]
/-- every numerator stays small -/
theorem scN_bd {x : RatD} (h : scV x = true) {d : Nat} (hd : d ≤ 1000) : 0 ≤ x.num * ((d : Int) / x.den) ∧ x.num * ((d : Int) / x.den) ≤ 1000000000000 := by
  obtain ⟨⟨h1, _⟩, h3, h4⟩ := scV_out h
  have e0 : 0 ≤ (d : Int) / x.den := Int.ediv_nonneg (by omega) (by omega)
  have e1 : (d : Int) / x.den ≤ (d : Int) := Int.ediv_le_self _ (by omega)
  refine ⟨Int.mul_nonneg h3 e0, ?_⟩
  have a1 : x.num * ((d : Int) / x.den) ≤ 1000000000 * ((d : Int) / x.den) := Int.mul_le_mul_of_nonneg_right h4 e0
  omega
end Go.Proofs.Ytjfhjlbofoknfaa
