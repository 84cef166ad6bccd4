/- As many places as numbers: the plain law. -/
import Derived.Test.YtalfldflnacpeaaQ1
namespace Go.Proofs.Ytalfldflnacpeaa
set_option linter.unusedSimpArgs false
set_option linter.unusedVariables false
open Go.RowKit
theorem pigeon : ∀ (n k : Nat) (f : Nat → Int), (∀ i, i < k → 0 ≤ f i ∧ f i < n) → (∀ i j, i < j → j < k → f i ≠ f j) → k ≤ n
  | 0, k, f, h1, _ => by
    by_cases hk : 0 < k
    · have := h1 0 hk; omega
    · omega
  | n + 1, k, f, h1, h2 => by
    by_cases h : ∃ i, i < k ∧ f i = n
    · obtain ⟨i0, hi0, he⟩ := h
      have := pigeon n (k - 1) (fun j => if j < i0 then f j else f (j + 1)) (fun j hj => by
        show 0 ≤ (if j < i0 then f j else f (j + 1)) ∧ (if j < i0 then f j else f (j + 1)) < n
        split
        · next g =>
          have a := h1 j (by omega); have b := h2 j i0 g hi0; rw [he] at b
          exact ⟨a.1, by omega⟩
        · next g =>
          have a := h1 (j + 1) (by omega); have b := h2 i0 (j + 1) (by omega) (by omega); rw [he] at b
          exact ⟨a.1, by omega⟩) (fun i j hij hj => by
        show (if i < i0 then f i else f (i + 1)) ≠ (if j < i0 then f j else f (j + 1))
        split
        · split
          · exact h2 i j hij (by omega)
          · exact h2 i (j + 1) (by omega) (by omega)
        · split
          · omega
          · exact h2 (i + 1) (j + 1) (by omega) (by omega))
      omega
    · have := pigeon n k f (fun i hi => by
        have a := h1 i hi
        have b : f i ≠ n := fun e => h ⟨i, hi, e⟩
        exact ⟨a.1, by omega⟩) h2
      omega
theorem firstIx_sr (p : Nat → Prop) (n : Nat) : (firstIx p n < n → p (firstIx p n)) ∧ ∀ j, j < firstIx p n → ¬ p j := by
  induction n with
  | zero => exact ⟨fun h => by simp [firstIx] at h, fun j hj => by simp [firstIx] at hj⟩
  | succ n ih =>
    by_cases h1 : firstIx p n < n
    · have e : firstIx p (n + 1) = firstIx p n := by simp only [firstIx]; rw [if_pos h1]
      rw [e]; exact ⟨fun _ => ih.1 h1, ih.2⟩
    · have h0 := firstIx_le p n
      have hn : firstIx p n = n := by omega
      rw [hn] at ih
      by_cases h2 : p n
      · have e : firstIx p (n + 1) = n := by simp only [firstIx]; rw [if_neg h1, if_pos h2]
        rw [e]; exact ⟨fun _ => h2, ih.2⟩
      · have e : firstIx p (n + 1) = n + 1 := by simp only [firstIx]; rw [if_neg h1, if_neg h2]
        rw [e]; exact ⟨fun h => by omega, fun j hj => by
          by_cases ej : j = n
          · subst ej; exact h2
          · exact ih.2 j (by omega)⟩
theorem findF_miss {xs : List Int} {v : Int} (h : ¬ 0 ≤ findF xs v) : ∀ i, i < xs.length → ix xs i ≠ v := by
  intro i hi e
  have hs := firstIx_sr (fun i => ix xs i = v) xs.length
  unfold findF at h
  split at h
  · omega
  · next g => exact hs.2 i (by omega) e
theorem findF_hit {xs : List Int} {v : Int} (h : 0 ≤ findF xs v) : ∃ i, i < xs.length ∧ ix xs i = v := by
  have hs := firstIx_sr (fun i => ix xs i = v) xs.length
  unfold findF at h
  split at h
  · next g => exact ⟨_, g, hs.1 g⟩
  · omega
theorem set_len {us : List Int} {n : Nat} (h : SetTo us n us.length) : us.length ≤ n := by
  refine pigeon n us.length (ix us) (fun i hi => ?_) (fun i j hij hj e => ?_)
  · have := (h i hi).1; omega
  · have h2 := findF_miss (h j hj).2 i (by rw [List.length_take]; omega)
    apply h2
    rw [← e]; simp [ix, hij]
/-- the inverse of an order of columns -/
def backTo (cols : List Int) : Nat → List Int
  | 0 => List.replicate cols.length 0
  | k + 1 => (backTo cols k).set (ix cols k).toNat k
noncomputable def backF (cols : List Int) (k : Nat) : List Int := (List.range k).map fun (i : Nat) => findF cols (i : Int)
end Go.Proofs.Ytalfldflnacpeaa
