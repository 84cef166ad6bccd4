/- Iterators over tries: the plain law. -/
import Derived.Test.YthochdlbmaiclaaQ6
namespace Go.Proofs.Ythochdlbmaiclaa
set_option linter.unusedSimpArgs false
set_option linter.unusedVariables false
open Go.RowKit
theorem firstIx_sq (p : Nat → Prop) (n : Nat) : (firstIx p n < n → p (firstIx p n)) ∧ ∀ j, j < firstIx p n → ¬ p j := by
  induction n with
  | zero => exact ⟨fun h => by simp [firstIx] at h, fun j hj => by simp [firstIx] at hj⟩
  | succ n ih =>
    by_cases h1 : firstIx p n < n
    · have e : firstIx p (n + 1) = firstIx p n := by simp only [firstIx]; rw [if_pos h1]
      rw [e]; exact ⟨fun _ => ih.1 h1, ih.2⟩
    · have h0 := firstIx_le p n
      have hn : firstIx p n = n := by omega
      rw [hn] at ih
      by_cases h2 : p n
      · have e : firstIx p (n + 1) = n := by simp only [firstIx]; rw [if_neg h1, if_pos h2]
        rw [e]; exact ⟨fun _ => h2, ih.2⟩
      · have e : firstIx p (n + 1) = n + 1 := by simp only [firstIx]; rw [if_neg h1, if_neg h2]
        rw [e]; exact ⟨fun h => by omega, fun j hj => by
          by_cases ej : j = n
          · subst ej; exact h2
          · exact ih.2 j (by omega)⟩
/-- the key of row i at level k -/
def kx (rows : List (List Int)) (i k : Nat) : Int := ix (rx rows i) k
/-- the end of the rows with row p's key at level k, from p on and below hi -/
noncomputable def grpEnd (rows : List (List Int)) (k p hi : Nat) : Nat := firstIx (fun i => p ≤ i ∧ kx rows i k ≠ kx rows p k) hi
theorem grpEnd_le (rows : List (List Int)) (k p hi : Nat) : grpEnd rows k p hi ≤ hi := firstIx_le _ _
theorem grpEnd_eq {rows : List (List Int)} {k p hi m : Nat} (hm : m ≤ hi) (hpm : p ≤ m) (h : ∀ i, p ≤ i → i < m → kx rows i k = kx rows p k) (he : m < hi → kx rows m k ≠ kx rows p k) : grpEnd rows k p hi = m := by
  unfold grpEnd
  by_cases g : m < hi
  · exact firstIx_eq (p := fun i => p ≤ i ∧ kx rows i k ≠ kx rows p k) g ⟨hpm, he g⟩ fun j hj hn => hn.2 (h j hn.1 hj)
  · obtain rfl : m = hi := by omega
    exact firstIx_none fun i hi' hn => hn.2 (h i hn.1 hi')
theorem grpEnd_gt {rows : List (List Int)} {k p hi : Nat} (hp : p < hi) : p < grpEnd rows k p hi := by
  have hs := firstIx_sq (fun i => p ≤ i ∧ kx rows i k ≠ kx rows p k) hi
  have hl := firstIx_le (fun i => p ≤ i ∧ kx rows i k ≠ kx rows p k) hi
  show p < firstIx _ _
  by_cases g : firstIx (fun i => p ≤ i ∧ kx rows i k ≠ kx rows p k) hi < hi
  · have h1 := hs.1 g
    by_cases e : firstIx (fun i => p ≤ i ∧ kx rows i k ≠ kx rows p k) hi = p
    · have h2 := h1.2; rw [e] at h2; exact absurd rfl h2
    · have := h1.1; omega
  · omega
theorem grpEnd_self (rows : List (List Int)) (k hi : Nat) : grpEnd rows k hi hi = hi := by
  unfold grpEnd; exact firstIx_none fun i hi' hn => by omega
/-- the place at level k -/
def px (pos : List Int) (k : Nat) : Nat := (ix pos k).toNat
/-- the range of rows at level k -/
noncomputable def bnd (rows : List (List Int)) (pos : List Int) : Nat → Nat × Nat
  | 0 => (0, rows.length)
  | k + 1 => (px pos k, grpEnd rows k (px pos k) (bnd rows pos k).2)
/-- level k of an iterator of n levels -/
def LevOK (rows : List (List Int)) (low high pos : List Int) (n k : Nat) : Prop :=
  ix low k = (bnd rows pos k).1 ∧ ix high k = (bnd rows pos k).2 ∧ ((bnd rows pos k).1 ≤ ix pos k ∧ ix pos k ≤ (bnd rows pos k).2) ∧
  (ix pos k = (bnd rows pos k).2 → k + 1 = n) ∧ (((bnd rows pos k).1 : Int) < ix pos k → ix pos k < (bnd rows pos k).2 → kx rows (px pos k - 1) k ≠ kx rows (px pos k) k)
theorem lev_px {rows : List (List Int)} {low high pos : List Int} {n k : Nat} (h : LevOK rows low high pos n k) : ix pos k = (px pos k : Nat) := by
  have := h.2.2.1.1; unfold px; omega
theorem bnd_ok {rows : List (List Int)} {low high pos : List Int} {n k : Nat} (hk : k < n) (h : ∀ j, j < k → LevOK rows low high pos n j) : (bnd rows pos k).1 ≤ (bnd rows pos k).2 ∧ (bnd rows pos k).2 ≤ rows.length := by
  induction k with
  | zero => exact ⟨Nat.zero_le _, Nat.le_refl _⟩
  | succ k ih =>
    have h1 := ih (by omega) (fun j hj => h j (by omega))
    have h2 := h k (by omega)
    have h3 := lev_px h2
    have h4 : px pos k < (bnd rows pos k).2 := by
      have g1 := h2.2.2.1.2; have g2 := h2.2.2.2.1
      by_cases e : ix pos k = (bnd rows pos k).2
      · have := g2 e; omega
      · omega
    simp only [bnd]
    exact ⟨Nat.le_of_lt (grpEnd_gt h4), Nat.le_trans (grpEnd_le _ _ _ _) h1.2⟩
open Classical in
/-- what IsValidIterator returns -/
noncomputable def validIt (ar : Int) (rows : List (List Int)) (low high pos : List Int) : Bool :=
  decide (validR ar rows = true ∧ low.length = pos.length ∧ high.length = pos.length ∧ (pos.length : Int) ≤ ar ∧ ∀ k, k < pos.length → LevOK rows low high pos pos.length k)
section
variable {ar : Int} {rows : List (List Int)} {low high pos : List Int}
theorem validIt_out (h : validIt ar rows low high pos = true) : validR ar rows = true ∧ low.length = pos.length ∧ high.length = pos.length ∧ (pos.length : Int) ≤ ar ∧ ∀ k, k < pos.length → LevOK rows low high pos pos.length k := by
  simpa only [validIt, decide_eq_true_eq] using h
theorem validIt_mk (h1 : validR ar rows = true) (h2 : low.length = pos.length) (h3 : high.length = pos.length) (h4 : (pos.length : Int) ≤ ar) (h5 : ∀ k, k < pos.length → LevOK rows low high pos pos.length k) : validIt ar rows low high pos = true := by
  simp only [validIt, decide_eq_true_eq]; exact ⟨h1, h2, h3, h4, h5⟩
theorem validIt_no (h : ¬ (validR ar rows = true ∧ low.length = pos.length ∧ high.length = pos.length ∧ (pos.length : Int) ≤ ar)) : validIt ar rows low high pos = false := by
  simp only [validIt, decide_eq_false_iff_not]; exact fun g => h ⟨g.1, g.2.1, g.2.2.1, g.2.2.2.1⟩
theorem validIt_lev {k : Nat} (hk : k < pos.length) (h : ¬ LevOK rows low high pos pos.length k) : validIt ar rows low high pos = false := by
  simp only [validIt, decide_eq_false_iff_not]; exact fun g => h (g.2.2.2.2 k hk)
/-- what AtEnd returns -/
noncomputable def atEndF (ar : Int) (rows : List (List Int)) (low high pos : List Int) : Bool := validIt ar rows low high pos && decide (0 < pos.length ∧ ix pos (pos.length - 1) = ix high (pos.length - 1))
/-- whether it is valid and has a current key -/
noncomputable def standsF (ar : Int) (rows : List (List Int)) (low high pos : List Int) : Bool := validIt ar rows low high pos && (decide (0 < pos.length) && !atEndF ar rows low high pos)
/-- where a standing iterator stands: its last level is l, its row is px pos l, and hi is the end of its range -/
theorem stands_out (h : standsF ar rows low high pos = true) : validIt ar rows low high pos = true ∧ ∃ l, pos.length = l + 1 ∧ ix pos l = (px pos l : Nat) ∧ ix high l = ((bnd rows pos l).2 : Nat) ∧ px pos l < (bnd rows pos l).2 ∧ (bnd rows pos l).2 ≤ rows.length ∧ (l : Int) < ar ∧ ∀ i, i < rows.length → ((rx rows i).length : Int) = ar := by
  simp only [standsF, Bool.and_eq_true, decide_eq_true_eq, Bool.not_eq_true'] at h
  obtain ⟨hv, hp, he⟩ := h
  obtain ⟨v1, v2, v3, v4, v5⟩ := validIt_out hv
  refine ⟨hv, pos.length - 1, by omega, ?_⟩
  have hl := v5 (pos.length - 1) (by omega)
  have hb := bnd_ok (n := pos.length) (k := pos.length - 1) (by omega) (fun j hj => v5 j (by omega))
  have hpx := lev_px hl
  refine ⟨hpx, hl.2.1, ?_, hb.2, by omega, fun i hi => ((validR_out v1).2.2 i hi).1⟩
  simp only [atEndF, hv, Bool.true_and, decide_eq_false_iff_not] at he
  have h1 := hl.2.2.1.2
  have h2 := hl.2.1
  by_cases e : px pos (pos.length - 1) < (bnd rows pos (pos.length - 1)).2
  · exact e
  · exact absurd ⟨hp, by omega⟩ he
end
end Go.Proofs.Ythochdlbmaiclaa
