/- The children behind a stem: the plain law, and the walks of both versions. -/
import Derived.Test.YtpamedlmbopfjaaQ11
namespace Go.Proofs.Ytpamedlmbopfjaa
set_option linter.unusedSimpArgs false
set_option linter.unusedVariables false
open Go.RowKit
theorem firstIx_sp (p : Nat → Prop) (n : Nat) : (firstIx p n < n → p (firstIx p n)) ∧ ∀ j, j < firstIx p n → ¬ p j := by
  induction n with
  | zero => exact ⟨fun h => by simp [firstIx] at h, fun j hj => by simp [firstIx] at hj⟩
  | succ n ih =>
    by_cases h1 : firstIx p n < n
    · have e : firstIx p (n + 1) = firstIx p n := by simp only [firstIx]; rw [if_pos h1]
      rw [e]; exact ⟨fun _ => ih.1 h1, ih.2⟩
    · have h0 := firstIx_le p n
      have hn : firstIx p n = n := by omega
      rw [hn] at ih
      by_cases h2 : p n
      · have e : firstIx p (n + 1) = n := by simp only [firstIx]; rw [if_neg h1, if_pos h2]
        rw [e]; exact ⟨fun _ => h2, ih.2⟩
      · have e : firstIx p (n + 1) = n + 1 := by simp only [firstIx]; rw [if_neg h1, if_neg h2]
        rw [e]; exact ⟨fun h => by omega, fun j hj => by
          by_cases ej : j = n
          · subst ej; exact h2
          · exact ih.2 j (by omega)⟩
/-- f 0, f 1, .. f (k - 1), each kept once where it stands more than once in a row -/
def chTo (f : Nat → Int) : Nat → List Int
  | 0 => []
  | k + 1 => if (chTo f k).length = 0 ∨ ix (chTo f k) ((chTo f k).length - 1) ≠ f k then chTo f k ++ [f k] else chTo f k
theorem chTo_len (f : Nat → Int) (k : Nat) : (chTo f k).length ≤ k := by
  induction k with
  | zero => simp [chTo]
  | succ k ih =>
    simp only [chTo]; split
    · simp; omega
    · omega
theorem chTo_put {f : Nat → Int} {k : Nat} (h : (chTo f k).length = 0 ∨ ix (chTo f k) ((chTo f k).length - 1) ≠ f k) : chTo f (k + 1) = chTo f k ++ [f k] := by simp only [chTo]; rw [if_pos h]
theorem chTo_keep {f : Nat → Int} {k : Nat} (h0 : (chTo f k).length ≠ 0) (h : ix (chTo f k) ((chTo f k).length - 1) = f k) : chTo f (k + 1) = chTo f k := by
  simp only [chTo]; rw [if_neg (by rintro (g | g); exact h0 g; exact g h)]
/-- the value at place q of row x + i -/
def chAt (rows : List (List Int)) (x q i : Nat) : Int := ix (rx rows (x + i)) q
/-- the children behind a stem of a trie -/
noncomputable def childF (ar : Int) (rows : List (List Int)) (p : List Int) : List Int :=
  if preOK ar rows p = true ∧ (p.length : Int) < ar then chTo (chAt rows (preLo rows p) p.length) (preHi rows p - preLo rows p) else []
theorem childF_no {ar : Int} {rows : List (List Int)} {p : List Int} (h : ¬ (preOK ar rows p = true ∧ (p.length : Int) < ar)) : childF ar rows p = [] := if_neg h
theorem childF_yes {ar : Int} {rows : List (List Int)} {p : List Int} (h : preOK ar rows p = true ∧ (p.length : Int) < ar) : childF ar rows p = chTo (chAt rows (preLo rows p) p.length) (preHi rows p - preLo rows p) := if_pos h
theorem preHi_ge (rows : List (List Int)) (p : List Int) : preLo rows p ≤ preHi rows p := by
  have hs := firstIx_sp (fun i => preLo rows p ≤ i ∧ cmpP rows p i ≠ 0) rows.length
  have hl := firstIx_le (fun i => preLo rows p ≤ i ∧ cmpP rows p i ≠ 0) rows.length
  have h0 := preLo_le rows p
  unfold preHi
  by_cases g : firstIx (fun i => preLo rows p ≤ i ∧ cmpP rows p i ≠ 0) rows.length < rows.length
  · exact (hs.1 g).1
  · omega
theorem range_le (ar : Int) (rows : List (List Int)) (p : List Int) : rangeLo ar rows p ≤ rangeHi ar rows p := by
  unfold rangeLo rangeHi
  split
  · exact preHi_ge rows p
  · exact Nat.le_refl _
theorem childF_range {ar : Int} {rows : List (List Int)} {p : List Int} (h : (p.length : Int) < ar) : childF ar rows p = chTo (chAt rows (rangeLo ar rows p) p.length) (rangeHi ar rows p - rangeLo ar rows p) := by
  by_cases g : preOK ar rows p = true
  · rw [childF_yes ⟨g, h⟩, (range_yes g).1, (range_yes g).2]
  · rw [childF_no (fun h => g h.1), (range_no (by simpa using g)).1, (range_no (by simpa using g)).2]; rfl
theorem childF_len (ar : Int) (rows : List (List Int)) (p : List Int) : (childF ar rows p).length ≤ rows.length := by
  unfold childF
  split
  · have h1 := chTo_len (chAt rows (preLo rows p) p.length) (preHi rows p - preLo rows p)
    have h2 : preHi rows p ≤ rows.length := firstIx_le _ _
    omega
  · simp
end Go.Proofs.Ytpamedlmbopfjaa
