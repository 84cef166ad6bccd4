/- Big numbers: the product by one. -/
import Derived.Test.YtjfhjlbofoknfaaN1
namespace Go.Proofs.Ytjfhjlbofoknfaa
set_option linter.unusedSimpArgs false
set_option linter.unusedVariables false
open Go.RowKit
theorem mulTo_one (xs : List Int) : ∀ i, i ≤ xs.length → mulTo xs [1] i = xs.take i ++ List.replicate (xs.length + 1 - i) 0 := by
  intro i
  induction i with
  | zero => intro _; simp [mulTo]
  | succ i ih =>
    intro hi
    have h1 := ih (by omega)
    have hl : (xs.take i).length = i := by simp; omega
    show addAt (mulTo xs [1] i) (i + 0) (ix xs i * ix [1] 0) = _
    rw [h1]
    unfold addAt
    simp only [Nat.add_zero]
    rw [show xs.length + 1 - i = (xs.length - i) + 1 by omega, List.replicate_succ]
    have e1 : ix (xs.take i ++ 0 :: List.replicate (xs.length - i) (0 : Int)) i = 0 := by
      simp only [ix, List.getD_eq_getElem?_getD]
      rw [List.getElem?_append_right (by omega), hl]; simp
    have e2 : ix [(1 : Int)] 0 = 1 := rfl
    rw [e1, e2, List.set_append_right _ _ (by omega), hl, Nat.sub_self, List.set_cons_zero]
    rw [show xs.length + 1 - (i + 1) = xs.length - i by omega]
    have e3 : xs.take (i + 1) = xs.take i ++ [ix xs i] := by
      rw [List.take_succ_eq_append_getElem (by omega), ix_lt (by omega)]
    rw [e3]; simp
theorem cr_small {l : List Int} (h : Bd 9 l) : ∀ i, i ≤ l.length → crC l i = 0 ∧ crD l i = l.take i := by
  intro i
  induction i with
  | zero => intro _; exact ⟨rfl, by simp [crD]⟩
  | succ i ih =>
    intro hi
    obtain ⟨h1, h2⟩ := ih (by omega)
    have hb := h i
    refine ⟨?_, ?_⟩
    · simp only [crC, h1, if_pos (show i < l.length by omega)]; omega
    · simp only [crD, h1, h2, if_pos (show i < l.length by omega)]
      rw [List.take_succ_eq_append_getElem (by omega), ix_lt (by omega)]
      have : (0 + l[i]) % 10 = l[i] := by rw [ix_lt (by omega)] at hb; omega
      rw [this]
theorem Bd.mono {B C : Int} {l : List Int} (h : Bd B l) (hc : B ≤ C) : Bd C l := fun i => by have := h i; omega
theorem crN_small {l : List Int} (h : Bd 9 l) : crN l = l.length := by
  have h1 := crN_spec (h.mono (show (9 : Int) ≤ 300000 by omega))
  have h2 := h1.2 l.length (Nat.le_refl _) (cr_small h _ (Nat.le_refl _)).1
  have := h1.1.1
  omega
theorem crRaw_small {l : List Int} (h : Bd 9 l) : crRaw l = l.take (trimN l l.length) ∧ crOK l = decide (trimN l l.length ≤ 60) := by
  have h1 := crN_small h
  have h2 := (cr_small h l.length (Nat.le_refl _)).2
  rw [List.take_length] at h2
  unfold crRaw crOK
  rw [h1, h2]; exact ⟨rfl, rfl⟩
theorem mulF_one {xs : List Int} (h : bigOK xs = true) : mulOK xs [1] = true ∧ mulF xs [1] = xs := by
  have h0 := bigOK_out h
  have hl : ix xs (xs.length - 1) ≠ 0 ∨ xs.length = 0 := by
    simp only [bigOK, Bool.and_eq_true, decide_eq_true_eq] at h
    rcases h.2.2 with h | h
    · exact .inr h
    · exact .inl h
  have e : mulTo xs [1] xs.length = xs ++ [0] := by
    rw [mulTo_one xs _ (Nat.le_refl _), List.take_length, show xs.length + 1 - xs.length = 1 by omega]; rfl
  have hb : Bd 9 (xs ++ [0]) := by
    intro i
    have : ∀ d ∈ xs ++ [0], 0 ≤ d ∧ d ≤ 9 := fun d hd => by
      rcases List.mem_append.1 hd with h | h
      · exact h0.1 d h
      · simp at h; omega
    exact ix_bd this i
  have hix : ∀ i, i < xs.length → ix (xs ++ [0]) i = ix xs i := fun i hi => by simp [ix, List.getElem?_append_left hi]
  have ht : trimN (xs ++ [0]) (xs ++ [0]).length = xs.length := by
    rw [show (xs ++ [(0 : Int)]).length = xs.length + 1 by simp]
    simp only [trimN]
    rw [if_pos (by simp [ix])]
    cases hn : xs.length with
    | zero => rfl
    | succ m =>
      simp only [trimN]
      rw [hix m (by omega)]
      rcases hl with h | h
      · rw [hn] at h; rw [if_neg (by simpa using h)]
      · omega
  obtain ⟨r1, r2⟩ := crRaw_small hb
  have hok : crOK (xs ++ [0]) = true := by rw [r2, ht]; simpa using h0.2
  have b1 : bigOK [1] = true := by decide
  have hm : mulOK xs [1] = true := by unfold mulOK; rw [h, b1, e, hok]; rfl
  refine ⟨hm, ?_⟩
  unfold mulF
  rw [if_pos hm, e]
  unfold crF
  rw [if_pos hok, r1, ht]
  simp
end Go.Proofs.Ytjfhjlbofoknfaa
