/- All orders: the plain law. -/
import Derived.Test.YtdimcbollnggjaaG1
namespace Go.Proofs.Ytdimcbollnggjaa
set_option linter.unusedSimpArgs false
set_option linter.unusedVariables false
open Go.RowKit
/-- the list with one more of the numbers below v that it lacks -/
def extTo (l : List Int) (v : Nat) : List (List Int) := ((List.range v).filter fun (x : Nat) => decide ((x : Int) ∉ l)).map fun (x : Nat) => l ++ [(x : Int)]
theorem extTo_in {l : List Int} {v : Nat} (h : (v : Int) ∈ l) : extTo l (v + 1) = extTo l v := by
  simp [extTo, List.range_succ, List.filter_append, h]
theorem extTo_out {l : List Int} {v : Nat} (h : (v : Int) ∉ l) : extTo l (v + 1) = extTo l v ++ [l ++ [(v : Int)]] := by
  simp [extTo, List.range_succ, List.filter_append, h]
theorem extTo_len (l : List Int) (v : Nat) : (extTo l v).length ≤ v := by
  simp only [extTo, List.length_map]
  exact Nat.le_trans (List.length_filter_le _ _) (by simp)
theorem mem_extTo {l x : List Int} {v : Nat} (h : x ∈ extTo l v) : ∃ y : Nat, y < v ∧ (y : Int) ∉ l ∧ x = l ++ [(y : Int)] := by
  simp only [extTo, List.mem_map, List.mem_filter, List.mem_range, decide_eq_true_eq] at h
  obtain ⟨y, ⟨h1, h2⟩, rfl⟩ := h
  exact ⟨y, h1, h2, rfl⟩
def step (nv : Nat) (L : List (List Int)) : List (List Int) := L.flatMap fun l => extTo l nv
def lvl (nv : Nat) : Nat → List (List Int) → List (List Int)
  | 0, L => L
  | j + 1, L => lvl nv j (step nv L)
theorem step_app (nv : Nat) (A B : List (List Int)) : step nv (A ++ B) = step nv A ++ step nv B := by simp [step]
theorem lvl_app (nv : Nat) : ∀ (j : Nat) (A B : List (List Int)), lvl nv j (A ++ B) = lvl nv j A ++ lvl nv j B
  | 0, _, _ => rfl
  | j + 1, A, B => by simp only [lvl]; rw [step_app, lvl_app nv j]
theorem lvl_nil (nv : Nat) : ∀ j, lvl nv j [] = []
  | 0 => rfl
  | j + 1 => by simp only [lvl, step, List.flatMap_nil]; exact lvl_nil nv j
theorem lvl_succ (nv : Nat) : ∀ (j : Nat) (L : List (List Int)), lvl nv (j + 1) L = step nv (lvl nv j L)
  | 0, _ => rfl
  | j + 1, L => by
    show lvl nv (j + 1) (step nv L) = _
    rw [lvl_succ nv j]; rfl
theorem lvl_map (nv j : Nat) (L : List (List Int)) : lvl nv j L = L.flatMap fun l => lvl nv j [l] := by
  induction L with
  | nil => rw [lvl_nil]; rfl
  | cons l L ih =>
    rw [show l :: L = [l] ++ L from rfl, lvl_app, ih]
    simp
theorem lvl_one (nv j : Nat) (l : List Int) : lvl nv (j + 1) [l] = (extTo l nv).flatMap fun x => lvl nv j [x] := by
  show lvl nv j (step nv [l]) = _
  rw [lvl_map]
  simp [step]
theorem step_len {nv B : Nat} {L : List (List Int)} (h : L.length ≤ B) : (step nv L).length ≤ B * nv := by
  induction L generalizing B with
  | nil => simp [step]
  | cons l L ih =>
    simp only [List.length_cons] at h
    have := ih (B := B - 1) (by omega)
    have h2 := extTo_len l nv
    have e : step nv (l :: L) = extTo l nv ++ step nv L := by simp [step]
    rw [e, List.length_append]
    obtain ⟨C, rfl⟩ : ∃ C, B = C + 1 := ⟨B - 1, by omega⟩
    rw [Nat.add_sub_cancel] at this
    rw [Nat.add_mul, Nat.one_mul]
    omega
theorem lvl_len {nv : Nat} (hn : nv ≤ 5) : ∀ (j : Nat) {L : List (List Int)} {B : Nat}, L.length ≤ B → (lvl nv j L).length ≤ B * 5 ^ j
  | 0, L, B, h => by simpa [lvl] using h
  | j + 1, L, B, h => by
    have h1 : (step nv L).length ≤ B * 5 := Nat.le_trans (step_len h) (Nat.mul_le_mul_left _ hn)
    have := lvl_len hn j h1
    rw [show lvl nv (j + 1) L = lvl nv j (step nv L) from rfl, Nat.pow_succ]
    rw [Nat.mul_comm (5 ^ j) 5, ← Nat.mul_assoc]; exact this
theorem pow5 {j : Nat} (h : j ≤ 5) : 5 ^ j ≤ 3125 := Nat.le_trans (Nat.pow_le_pow_right (by omega) h) (by decide)
/-- what is in level k -/
def Lv (nv k : Nat) (x : List Int) : Prop := x.length = k ∧ (∀ i, i < k → 0 ≤ ix x i ∧ ix x i < nv) ∧ ∀ i j, i < j → j < k → ix x i ≠ ix x j
theorem Lv.ext {nv k y : Nat} {x : List Int} (h : Lv nv k x) (hy : y < nv) (hn : (y : Int) ∉ x) : Lv nv (k + 1) (x ++ [(y : Int)]) := by
  obtain ⟨h1, h2, h3⟩ := h
  have e1 : ∀ i, i < k → ix (x ++ [(y : Int)]) i = ix x i := fun i hi => by simp [ix, List.getElem?_append_left (show i < x.length by omega)]
  have e2 : ix (x ++ [(y : Int)]) k = y := by simp [ix, ← h1]
  refine ⟨by simp [h1], fun i hi => ?_, fun i j hij hj => ?_⟩
  · by_cases e : i = k
    · subst e; rw [e2]; omega
    · rw [e1 i (by omega)]; exact h2 i (by omega)
  · by_cases e : j = k
    · subst e
      rw [e1 i hij, e2]
      intro e3
      exact hn (mem_ix.2 ⟨i, by omega, e3⟩)
    · rw [e1 i (by omega), e1 j (by omega)]; exact h3 i j hij (by omega)
theorem lvl_in {nv : Nat} : ∀ (j k : Nat) {L : List (List Int)}, (∀ x ∈ L, Lv nv k x) → ∀ x ∈ lvl nv j L, Lv nv (k + j) x
  | 0, k, L, h, x, hx => h x hx
  | j + 1, k, L, h, x, hx => by
    have := lvl_in j (k + 1) (L := step nv L) (fun z hz => by
      simp only [step, List.mem_flatMap] at hz
      obtain ⟨l, hl, hz⟩ := hz
      obtain ⟨y, h1, h2, rfl⟩ := mem_extTo hz
      exact (h l hl).ext h1 h2) x hx
    rw [show k + (j + 1) = k + 1 + j by omega]; exact this
theorem lv0 (nv : Nat) : ∀ x ∈ [([] : List Int)], Lv nv 0 x := fun x hx => by
  rw [List.mem_singleton] at hx; subst hx
  exact ⟨rfl, fun i hi => absurd hi (Nat.not_lt_zero _), fun i j _ hj => absurd hj (Nat.not_lt_zero _)⟩
/-- the levels from the empty list on -/
abbrev lev (nv k : Nat) : List (List Int) := lvl nv k [[]]
theorem lev_in (nv k : Nat) : ∀ x ∈ lev nv k, Lv nv k x := by have := lvl_in k 0 (lv0 nv); simpa using this
theorem lev_len {nv k : Nat} (hn : nv ≤ 5) (hk : k ≤ 5) : (lev nv k).length ≤ 3125 := by
  have := lvl_len hn k (L := [[]]) (B := 1) (by simp)
  have := pow5 hk
  show (lvl nv k [[]]).length ≤ 3125
  omega
/-- different lists, in their order: the first difference decides -/
theorem step_nodup {nv : Nat} : ∀ {L : List (List Int)}, (∀ i j, i < j → j < L.length → (L.getD i []) ≠ (L.getD j [])) → L.Nodup := by
  intro L h
  rw [List.Nodup, List.pairwise_iff_getElem]
  intro i j hi hj hij e
  exact h i j hij hj (by simp [List.getD, hi, hj, e])
theorem extTo_nodup (l : List Int) : ∀ v, (extTo l v).Nodup
  | 0 => by simp [extTo]
  | v + 1 => by
    by_cases h : (v : Int) ∈ l
    · rw [extTo_in h]; exact extTo_nodup l v
    · rw [extTo_out h, List.nodup_append]
      refine ⟨extTo_nodup l v, by simp, ?_⟩
      intro a ha b hb
      rw [List.mem_singleton] at hb
      subst hb
      obtain ⟨y, h1, _, rfl⟩ := mem_extTo ha
      intro e
      have := List.append_cancel_left e
      simp at this
      omega
theorem step_nd {nv k : Nat} : ∀ {L : List (List Int)}, (∀ x ∈ L, x.length = k) → L.Nodup → (step nv L).Nodup
  | [], _, _ => by simp [step]
  | l :: L, hk, h => by
    have h1 := List.nodup_cons.1 h
    have e : step nv (l :: L) = extTo l nv ++ step nv L := by simp [step]
    rw [e, List.nodup_append]
    refine ⟨extTo_nodup l nv, step_nd (fun x hx => hk x (List.mem_cons_of_mem _ hx)) h1.2, ?_⟩
    intro a ha b hb e2
    subst e2
    obtain ⟨y, _, _, rfl⟩ := mem_extTo ha
    simp only [step, List.mem_flatMap] at hb
    obtain ⟨m, hm, hb⟩ := hb
    obtain ⟨z, _, _, e3⟩ := mem_extTo hb
    have hl1 := hk l (List.mem_cons_self ..)
    have hl2 := hk m (List.mem_cons_of_mem _ hm)
    have := (List.append_inj e3 (by omega)).1
    subst this
    exact h1.1 hm
theorem lev_nd (nv : Nat) : ∀ k, (lev nv k).Nodup
  | 0 => by simp [lev, lvl]
  | k + 1 => by
    rw [show lev nv (k + 1) = step nv (lev nv k) from lvl_succ nv k _]
    exact step_nd (k := k) (fun x hx => (lev_in nv k x hx).1) (lev_nd nv k)
theorem nodup_ne {L : List (List Int)} (h : L.Nodup) : ∀ i j, i < L.length → j < L.length → i ≠ j → rx L i ≠ rx L j := fun i j hi hj hij e => by
  rw [rx_lt hi, rx_lt hj] at e
  have hp := List.pairwise_iff_getElem.1 h
  rcases Nat.lt_or_gt_of_ne hij with h1 | h1
  · exact hp i j hi hj h1 e
  · exact hp j i hj hi h1 e.symm
end Go.Proofs.Ytdimcbollnggjaa
