/- As many places as numbers: the plain law. -/
import Derived.Test.YtalfldflnacpeaaQ1
namespace Go.Proofs.Ytalfldflnacpeaa
set_option linter.unusedSimpArgs false
set_option linter.unusedVariables false
open Go.RowKit
theorem pigeon : ∀ (n k : Nat) (f : Nat → Int), (∀ i, i < k → 0 ≤ f i ∧ f i < n) → (∀ i j, i < j → j < k → f i ≠ f j) → k ≤ n
  | 0, k, f, h1, _ => by
    by_cases hk : 0 < k
    · have := h1 0 hk; omega
    · omega
  | n + 1, k, f, h1, h2 => by
    by_cases h : ∃ i, i < k ∧ f i = n
    · obtain ⟨i0, hi0, he⟩ := h
      have := pigeon n (k - 1) (fun j => if j < i0 then f j else f (j + 1)) (fun j hj => by
        show 0 ≤ (if j < i0 then f j else f (j + 1)) ∧ (if j < i0 then f j else f (j + 1)) < n
        split
        · next g =>
          have a := h1 j (by omega); have b := h2 j i0 g hi0; rw [he] at b
          exact ⟨a.1, by omega⟩
        · next g =>
          have a := h1 (j + 1) (by omega); have b := h2 i0 (j + 1) (by omega) (by omega); rw [he] at b
          exact ⟨a.1, by omega⟩) (fun i j hij hj => by
        show (if i < i0 then f i else f (i + 1)) ≠ (if j < i0 then f j else f (j + 1))
        split
        · split
          · exact h2 i j hij (by omega)
          · exact h2 i (j + 1) (by omega) (by omega)
        · split
          · omega
          · exact h2 (i + 1) (j + 1) (by omega) (by omega))
      omega
    · have := pigeon n k f (fun i hi => by
        have a := h1 i hi
        have b : f i ≠ n := fun e => h ⟨i, hi, e⟩
        exact ⟨a.1, by omega⟩) h2
      omega
theorem firstIx_sr (p : Nat → Prop) (n : Nat) : (firstIx p n < n → p (firstIx p n)) ∧ ∀ j, j < firstIx p n → ¬ p j := by
  induction n with
  | zero => exact ⟨fun h => by simp [firstIx] at h, fun j hj => by simp [firstIx] at hj⟩
  | succ n ih =>
    by_cases h1 : firstIx p n < n
    · have e : firstIx p (n + 1) = firstIx p n := by simp only [firstIx]; rw [if_pos h1]
      rw [e]; exact ⟨fun _ => ih.1 h1, ih.2⟩
    · have h0 := firstIx_le p n
      have hn : firstIx p n = n := by omega
      rw [hn] at ih
      by_cases h2 : p n
      · have e : firstIx p (n + 1) = n := by simp only [firstIx]; rw [if_neg h1, if_pos h2]
        rw [e]; exact ⟨fun _ => h2, ih.2⟩
      · have e : firstIx p (n + 1) = n + 1 := by simp only [firstIx]; rw [if_neg h1, if_neg h2]
        rw [e]; exact ⟨fun h => by omega, fun j hj => by
          by_cases ej : j = n
          · subst ej; exact h2
          · exact ih.2 j (by omega)⟩
theorem findF_miss {xs : List Int} {v : Int} (h : ¬ 0 ≤ findF xs v) : ∀ i, i < xs.length → ix xs i ≠ v := by
  intro i hi e
  have hs := firstIx_sr (fun i => ix xs i = v) xs.length
  unfold findF at h
  split at h
  · omega
  · next g => exact hs.2 i (by omega) e
theorem findF_hit {xs : List Int} {v : Int} (h : 0 ≤ findF xs v) : ∃ i, i < xs.length ∧ ix xs i = v := by
  have hs := firstIx_sr (fun i => ix xs i = v) xs.length
  unfold findF at h
  split at h
  · next g => exact ⟨_, g, hs.1 g⟩
  · omega
theorem set_len {us : List Int} {n : Nat} (h : SetTo us n us.length) : us.length ≤ n := by
  refine pigeon n us.length (ix us) (fun i hi => ?_) (fun i j hij hj e => ?_)
  · have := (h i hi).1; omega
  · have h2 := findF_miss (h j hj).2 i (by rw [List.length_take]; omega)
    apply h2
    rw [← e]; simp [ix, hij]
/-- a list of n different numbers below n has each of them -/
theorem set_onto {us : List Int} (h : SetTo us us.length us.length) {v : Int} (h0 : 0 ≤ v) (h1 : v < us.length) : ∃ i, i < us.length ∧ ix us i = v := by
  by_cases hh : ∃ i, i < us.length ∧ ix us i = v
  · exact hh
  · exfalso
    have := pigeon us.length (us.length + 1) (fun i => if i < us.length then ix us i else v) (fun i hi => by
      show 0 ≤ (if i < us.length then ix us i else v) ∧ (if i < us.length then ix us i else v) < us.length
      split
      · rename_i g; have := (h i g).1; omega
      · exact ⟨h0, h1⟩) (fun i j hij hj => by
      show (if i < us.length then ix us i else v) ≠ (if j < us.length then ix us j else v)
      split
      · rename_i g
        split
        · rename_i g2
          intro e
          have h2 := findF_miss (h j g2).2 i (by rw [List.length_take]; omega)
          apply h2
          rw [← e]; simp [ix, hij]
        · exact fun e => hh ⟨i, g, e⟩
      · omega)
    omega
theorem set_inj {us : List Int} {n : Int} (h : SetTo us n us.length) {i j : Nat} (hi : i < us.length) (hj : j < us.length) (e : ix us i = ix us j) : i = j := by
  have key : ∀ i j, i < j → j < us.length → ix us i ≠ ix us j := fun i j hij hj e => by
    have h2 := findF_miss (h j hj).2 i (by rw [List.length_take]; omega)
    apply h2
    rw [← e]; simp [ix, hij]
  rcases Nat.lt_trichotomy i j with h1 | h1 | h1
  · exact absurd e (key i j h1 hj)
  · exact h1
  · exact absurd e.symm (key j i h1 hi)
/-- the inverse of an order of columns -/
def backTo (cols : List Int) : Nat → List Int
  | 0 => List.replicate cols.length 0
  | k + 1 => (backTo cols k).set (ix cols k).toNat k
theorem backTo_len (cols : List Int) : ∀ k, (backTo cols k).length = cols.length
  | 0 => by simp [backTo]
  | k + 1 => by simp [backTo, backTo_len cols k]
theorem ix_set_self {l : List Int} {k : Nat} (v : Int) (h : k < l.length) : ix (l.set k v) k = v := by simp [ix, h]
theorem ix_set_ne {l : List Int} {k j : Nat} (v : Int) (h : k ≠ j) : ix (l.set k v) j = ix l j := by simp [ix, List.getElem?_set_ne h]
theorem backTo_at {cols : List Int} (h : SetTo cols cols.length cols.length) : ∀ k, k ≤ cols.length → ∀ i, i < k → ix (backTo cols k) (ix cols i).toNat = i
  | 0, _, i, hi => absurd hi (Nat.not_lt_zero _)
  | k + 1, hk, i, hi => by
    have hb := (h k (by omega)).1
    have hbi := (h i (by omega)).1
    have hl := backTo_len cols k
    simp only [backTo]
    by_cases e : i = k
    · subst e
      exact ix_set_self _ (by omega)
    · have hne : (ix cols k).toNat ≠ (ix cols i).toNat := fun e2 => e (set_inj h (i := i) (j := k) (by omega) (by omega) (by omega))
      rw [ix_set_ne _ hne]
      exact backTo_at h k (by omega) i (by omega)
noncomputable def backF (cols : List Int) (k : Nat) : List Int := (List.range k).map fun (i : Nat) => findF cols (i : Int)
theorem back_eq {cols : List Int} (h : SetTo cols cols.length cols.length) : backTo cols cols.length = backF cols cols.length := by
  apply List.ext_getElem
  · simp [backTo_len, backF]
  · intro j h1 h2
    rw [backTo_len] at h1
    obtain ⟨i, hi, e⟩ := set_onto h (v := (j : Int)) (by omega) (by omega)
    have g1 := backTo_at h cols.length (Nat.le_refl _) i hi
    rw [e, Int.toNat_natCast, ix_lt (by rw [backTo_len]; exact h1)] at g1
    rw [g1]
    simp only [backF, List.getElem_map, List.getElem_range]
    exact (findF_eq hi e (fun m hm em => by have := set_inj h (i := m) (j := i) (by omega) hi (by rw [em, e]); omega)).symm
end Go.Proofs.Ytalfldflnacpeaa
