/- Neighbours of a variable, on both sides. -/
import Derived.Test.YtalfldflnacpeaaG2
namespace Go.Proofs.Ytalfldflnacpeaa
set_option linter.unusedSimpArgs false
set_option linter.unusedVariables false
open Go.RowKit
/-- x stands in an atom together with v -/
def Adj (xs : List AtomD) (v x : Int) : Prop := x ≠ v ∧ ∃ i, i < xs.length ∧ occ (ax xs i).vs v = true ∧ occ (ax xs i).vs x = true
theorem getDA {xs : List AtomD} {i : Nat} {x : DV} (h : i < xs.length) : (xs.map atomDV).getD i x = atomDV (ax xs i) := by simp [List.getD, ax, h]
theorem occ_mem {l : List Int} {v : Int} : occ l v = true ↔ v ∈ l := by
  unfold occ findF
  rw [decide_eq_true_eq]
  constructor
  · intro h
    split at h
    · rename_i hl
      have hp : ∀ (p : Nat → Prop) (n : Nat), firstIx p n < n → p (firstIx p n) := fun p n => by
        induction n with
        | zero => intro h; omega
        | succ n ih =>
          intro h
          simp only [firstIx] at h ⊢
          split
          · rename_i h1; exact ih h1
          · split
            · assumption
            · rename_i h1 h2; rw [if_neg h1, if_neg h2] at h; omega
      exact mem_ix.2 ⟨_, hl, hp _ _ hl⟩
    · omega
  · intro h
    have hp : ∀ (p : Nat → Prop) (n j : Nat), j < n → p j → firstIx p n < n := fun p n j hj hpj => by
      induction n with
      | zero => omega
      | succ n ih =>
        simp only [firstIx]
        split
        · omega
        · rename_i h1
          split
          · omega
          · rename_i h2
            by_cases e : j = n
            · subst e; exact absurd hpj h2
            · exact absurd (ih (by omega)) h1
    obtain ⟨i, hi, e⟩ := mem_ix.1 h
    rw [if_pos (hp (fun i => ix l i = v) _ i hi e)]
    omega
/-- whether v and x stand in one of the first k atoms -/
noncomputable def adjTo (xs : List AtomD) (v x : Int) : Nat → Bool
  | 0 => false
  | k + 1 => adjTo xs v x k || (decide (x ≠ v) && (occ (ax xs k).vs v && occ (ax xs k).vs x))
end Go.Proofs.Ytalfldflnacpeaa
