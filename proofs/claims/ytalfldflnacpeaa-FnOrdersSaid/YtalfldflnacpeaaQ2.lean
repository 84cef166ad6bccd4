/- Walks: comparing numbers and rows, valid values. -/
import Derived.Test.YtalfldflnacpeaaQ1
namespace Go.Proofs.Ytalfldflnacpeaa
set_option linter.unusedSimpArgs false
set_option linter.unusedVariables false
open Go.RowKit
/-- -1, 0 or 1 -/
def cmpI (x y : Int) : Int := if x < y then -1 else if y < x then 1 else 0
theorem implCmp (x y : Int) (w : World) : Calls Try.prog 62 #[.int .i64 x, .int .i64 y] w (Gives w (.int .i64 (cmpI x y))) := by
  rcases Int.lt_trichotomy x y with h | h | h
  · have hc : cmpI x y = -1 := by unfold cmpI; rw [if_pos h]
    rw [hc]
    go_enter Try.func62, Try.ntmps62
    go_wp2
    go_ret
    exact ⟨rfl, 0, rfl⟩
  · have hc : cmpI x y = 0 := by unfold cmpI; rw [if_neg (by omega), if_neg (by omega)]
    rw [hc]
    have h1 : ¬ x < y := by omega
    have h2 : ¬ y < x := by omega
    clear h
    go_enter Try.func62, Try.ntmps62
    go_wp2
    go_ret
    exact ⟨rfl, 0, rfl⟩
  · have hc : cmpI x y = 1 := by unfold cmpI; rw [if_neg (by omega), if_pos h]
    rw [hc]
    go_enter Try.func62, Try.ntmps62
    go_wp2
    go_ret
    exact ⟨rfl, 0, rfl⟩
/-- all of the first k values lie from 0 to 99 -/
def ValTo (xs : List Int) (k : Nat) : Prop := ∀ i, i < k → 0 ≤ ix xs i ∧ ix xs i ≤ 99
open Classical in
noncomputable def valB (xs : List Int) : Bool := decide (ValTo xs xs.length)
/- Comparing rows: the plain law. -/
/-- rows in the order of their first difference, then of their lengths -/
def cmpR : List Int → List Int → Int
  | x :: xs, y :: ys => if x = y then cmpR xs ys else cmpI x y
  | [], [] => 0
  | [], _ :: _ => -1
  | _ :: _, [] => 1
theorem cmpR_drop {xs ys : List Int} {k : Nat} (h : ∀ i, i < k → ix xs i = ix ys i) (h1 : k ≤ xs.length) (h2 : k ≤ ys.length) : cmpR xs ys = cmpR (xs.drop k) (ys.drop k) := by
  induction k generalizing xs ys with
  | zero => rfl
  | succ k ih =>
    cases xs with
    | nil => simp at h1
    | cons x xs =>
      cases ys with
      | nil => simp at h2
      | cons y ys =>
        have h0 := h 0 (by omega)
        simp only [ix, List.getD, List.getElem?_cons_zero, Option.getD_some] at h0
        subst h0
        simp only [cmpR, if_true, List.drop_succ_cons]
        exact ih (fun i hi => by have := h (i + 1) (by omega); simpa [ix, List.getD] using this) (by simpa using h1) (by simpa using h2)
theorem cmpR_at {xs ys : List Int} {k : Nat} (h : ∀ i, i < k → ix xs i = ix ys i) (h1 : k < xs.length) (h2 : k < ys.length) (hne : ix xs k ≠ ix ys k) : cmpR xs ys = cmpI (ix xs k) (ix ys k) := by
  rw [cmpR_drop h (by omega) (by omega), List.drop_eq_getElem_cons h1, List.drop_eq_getElem_cons h2]
  rw [ix_lt h1, ix_lt h2] at hne ⊢
  simp only [cmpR, if_neg hne]
theorem cmpR_end {xs ys : List Int} {k : Nat} (h : ∀ i, i < k → ix xs i = ix ys i) (h1 : k ≤ xs.length) (h2 : k ≤ ys.length) (he : k = xs.length ∨ k = ys.length) : cmpR xs ys = cmpI xs.length ys.length := by
  rw [cmpR_drop h h1 h2]
  rcases he with e | e
  · rw [List.drop_of_length_le (by omega)]
    by_cases g : k = ys.length
    · rw [List.drop_of_length_le (by omega)]
      simp only [cmpR, cmpI]
      rw [if_neg (by omega), if_neg (by omega)]
    · rw [List.drop_eq_getElem_cons (by omega : k < ys.length)]
      simp only [cmpR, cmpI]
      rw [if_pos (by omega)]
  · rw [show ys.drop k = [] from List.drop_of_length_le (by omega)]
    by_cases g : k = xs.length
    · rw [List.drop_of_length_le (by omega)]
      simp only [cmpR, cmpI]
      rw [if_neg (by omega), if_neg (by omega)]
    · rw [List.drop_eq_getElem_cons (by omega : k < xs.length)]
      simp only [cmpR, cmpI]
      rw [if_neg (by omega), if_pos (by omega)]
end Go.Proofs.Ytalfldflnacpeaa
