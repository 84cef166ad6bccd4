/- Valid queries: the plain law. -/
import Derived.Test.YtfgkgjkgikghaaaA2
import Derived.Test.YtfgkgjkgikghaaaB1
namespace Go.Proofs.Ytfgkgjkgikghaaa
set_option linter.unusedSimpArgs false
set_option linter.unusedVariables false
open Go.RowKit
theorem pigeon : ∀ (n k : Nat) (f : Nat → Int), (∀ i, i < k → 0 ≤ f i ∧ f i < n) → (∀ i j, i < j → j < k → f i ≠ f j) → k ≤ n
  | 0, k, f, h1, _ => by
    by_cases hk : 0 < k
    · have := h1 0 hk; omega
    · omega
  | n + 1, k, f, h1, h2 => by
    by_cases h : ∃ i, i < k ∧ f i = n
    · obtain ⟨i0, hi0, he⟩ := h
      have := pigeon n (k - 1) (fun j => if j < i0 then f j else f (j + 1)) (fun j hj => by
        show 0 ≤ (if j < i0 then f j else f (j + 1)) ∧ (if j < i0 then f j else f (j + 1)) < n
        split
        · next g =>
          have a := h1 j (by omega); have b := h2 j i0 g hi0; rw [he] at b
          exact ⟨a.1, by omega⟩
        · next g =>
          have a := h1 (j + 1) (by omega); have b := h2 i0 (j + 1) (by omega) (by omega); rw [he] at b
          exact ⟨a.1, by omega⟩) (fun i j hij hj => by
        show (if i < i0 then f i else f (i + 1)) ≠ (if j < i0 then f j else f (j + 1))
        split
        · split
          · exact h2 i j hij (by omega)
          · exact h2 i (j + 1) (by omega) (by omega)
        · split
          · omega
          · exact h2 (i + 1) (j + 1) (by omega) (by omega))
      omega
    · have := pigeon n k f (fun i hi => by
        have a := h1 i hi
        have b : f i ≠ n := fun e => h ⟨i, hi, e⟩
        exact ⟨a.1, by omega⟩) h2
      omega
theorem firstIx_sr (p : Nat → Prop) (n : Nat) : (firstIx p n < n → p (firstIx p n)) ∧ ∀ j, j < firstIx p n → ¬ p j := by
  induction n with
  | zero => exact ⟨fun h => by simp [firstIx] at h, fun j hj => by simp [firstIx] at hj⟩
  | succ n ih =>
    by_cases h1 : firstIx p n < n
    · have e : firstIx p (n + 1) = firstIx p n := by simp only [firstIx]; rw [if_pos h1]
      rw [e]; exact ⟨fun _ => ih.1 h1, ih.2⟩
    · have h0 := firstIx_le p n
      have hn : firstIx p n = n := by omega
      rw [hn] at ih
      by_cases h2 : p n
      · have e : firstIx p (n + 1) = n := by simp only [firstIx]; rw [if_neg h1, if_pos h2]
        rw [e]; exact ⟨fun _ => h2, ih.2⟩
      · have e : firstIx p (n + 1) = n + 1 := by simp only [firstIx]; rw [if_neg h1, if_neg h2]
        rw [e]; exact ⟨fun h => by omega, fun j hj => by
          by_cases ej : j = n
          · subst ej; exact h2
          · exact ih.2 j (by omega)⟩
theorem findF_miss {xs : List Int} {v : Int} (h : ¬ 0 ≤ findF xs v) : ∀ i, i < xs.length → ix xs i ≠ v := by
  intro i hi e
  have hs := firstIx_sr (fun i => ix xs i = v) xs.length
  unfold findF at h
  split at h
  · omega
  · next g => exact hs.2 i (by omega) e
theorem findF_hit {xs : List Int} {v : Int} (h : 0 ≤ findF xs v) : ∃ i, i < xs.length ∧ ix xs i = v := by
  have hs := firstIx_sr (fun i => ix xs i = v) xs.length
  unfold findF at h
  split at h
  · next g => exact ⟨_, g, hs.1 g⟩
  · omega
theorem set_len {us : List Int} {n : Nat} (h : SetTo us n us.length) : us.length ≤ n := by
  refine pigeon n us.length (ix us) (fun i hi => ?_) (fun i j hij hj e => ?_)
  · have := (h i hi).1; omega
  · have h2 := findF_miss (h j hj).2 i (by rw [List.length_take]; omega)
    apply h2
    rw [← e]; simp [ix, hij]
/-- an atom is valid for so many variables -/
def AtomOK (nv : Int) (x : AtomD) : Prop := nameOK x.nm = true ∧ (1 ≤ x.vs.length ∧ x.vs.length ≤ 5) ∧ ∀ j, j < x.vs.length → 0 ≤ ix x.vs j ∧ ix x.vs j ≤ nv - 1
def HeadOK (nv : Int) (n : Nat) : Prop := (1 ≤ nv ∧ nv ≤ 5) ∧ 1 ≤ n ∧ n ≤ 4
def CovOK (nv : Int) (xs : List AtomD) : Prop := ∀ v : Nat, (v : Int) < nv → ∃ i, i < xs.length ∧ occ (ax xs i).vs v = true
open Classical in
/-- what IsValidQuery returns -/
noncomputable def qOK (nv : Int) (xs : List AtomD) (us : List Int) : Bool :=
  decide (HeadOK nv xs.length ∧ SetTo us nv us.length ∧ (∀ i, i < xs.length → AtomOK nv (ax xs i)) ∧ CovOK nv xs)
section
variable {nv : Int} {xs : List AtomD} {us : List Int}
theorem qOK_yes (h1 : HeadOK nv xs.length) (h2 : SetTo us nv us.length) (h3 : ∀ i, i < xs.length → AtomOK nv (ax xs i)) (h4 : CovOK nv xs) : qOK nv xs us = true := by
  simp only [qOK, decide_eq_true_eq]; exact ⟨h1, h2, h3, h4⟩
theorem qOK_out (h : qOK nv xs us = true) : HeadOK nv xs.length ∧ SetTo us nv us.length ∧ (∀ i, i < xs.length → AtomOK nv (ax xs i)) ∧ CovOK nv xs := by
  simpa only [qOK, decide_eq_true_eq] using h
theorem qOK_head (h : ¬ HeadOK nv xs.length) : qOK nv xs us = false := by simp only [qOK, decide_eq_false_iff_not]; exact fun g => h g.1
theorem qOK_set (h : ¬ SetTo us nv us.length) : qOK nv xs us = false := by simp only [qOK, decide_eq_false_iff_not]; exact fun g => h g.2.1
theorem qOK_atom {i : Nat} (hi : i < xs.length) (h : ¬ AtomOK nv (ax xs i)) : qOK nv xs us = false := by simp only [qOK, decide_eq_false_iff_not]; exact fun g => h (g.2.2.1 i hi)
theorem qOK_cov (h : ¬ CovOK nv xs) : qOK nv xs us = false := by simp only [qOK, decide_eq_false_iff_not]; exact fun g => h g.2.2.2
theorem qOK_long (h0 : 0 ≤ nv) (h : ¬ (us.length : Int) ≤ nv) : qOK nv xs us = false := by
  refine qOK_set (fun g => h ?_)
  obtain ⟨n, rfl⟩ := Int.eq_ofNat_of_zero_le h0
  have := set_len g; omega
end
end Go.Proofs.Ytfgkgjkgikghaaa
