/- The AGM bounds: the plain law. -/
import Derived.Test.YtnipfgmldhepkaaN8
import Derived.Test.YtnipfgmldhepkaaN9
import Derived.Test.YtnipfgmldhepkaaN10
import Derived.Test.YtnipfgmldhepkaaN6
namespace Go.Proofs.Ytnipfgmldhepkaa
set_option linter.unusedSimpArgs false
set_option linter.unusedVariables false
open Go.RowKit
theorem crD_bd (l : List Int) (n : Nat) : ∀ d ∈ crD l n, 0 ≤ d ∧ d ≤ 9 := by
  induction n with
  | zero => intro d hd; simp [crD] at hd
  | succ n ih =>
    intro d hd
    simp only [crD, List.mem_append, List.mem_singleton] at hd
    rcases hd with hd | rfl
    · exact ih d hd
    · omega
theorem trimN_last (ds : List Int) (n : Nat) : trimN ds n = 0 ∨ ix ds (trimN ds n - 1) ≠ 0 := by
  induction n with
  | zero => left; rfl
  | succ n ih =>
    simp only [trimN]
    split
    · exact ih
    · right; simpa using by assumption
theorem crF_big (l : List Int) : bigOK (crF l) = true := by
  unfold crF
  split
  · rename_i h
    have h1 : trimN (crD l (crN l)) (crN l) ≤ 60 := by simpa [crOK] using h
    have hl : (crRaw l).length = trimN (crD l (crN l)) (crN l) := by
      have := trimN_le (crD l (crN l)) (crN l)
      simp [crRaw, crD_len]; omega
    simp only [bigOK, Bool.and_eq_true, decide_eq_true_eq]
    refine ⟨fun d hd => crD_bd l _ d (List.mem_of_mem_take hd), by omega, ?_⟩
    rw [hl]
    rcases trimN_last (crD l (crN l)) (crN l) with h2 | h2
    · exact .inl h2
    · by_cases h3 : trimN (crD l (crN l)) (crN l) = 0
      · exact .inl h3
      · right
        have : ix (crRaw l) (trimN (crD l (crN l)) (crN l) - 1) = ix (crD l (crN l)) (trimN (crD l (crN l)) (crN l) - 1) := by
          simp only [ix, crRaw, List.getD_eq_getElem?_getD]
          rw [List.getElem?_take_of_lt (by omega)]
        rw [this]; exact h2
  · rfl
theorem mulF_big {a b : List Int} : bigOK (mulF a b) = true := by
  unfold mulF; split
  · exact crF_big _
  · rfl
theorem digI_one : digI 1 = [1] := by
  unfold digI
  rw [show (1 : Int).toNat = 1 from rfl, digN_pos (by omega), show 1 / 10 = 0 from rfl, digN_zero]; rfl
theorem big_one : bigOK [1] = true := by decide
theorem prodSt_big (s e : List Int) (i : Nat) : bigOK (prodSt s e i).1 = true := by
  cases i with
  | zero => simp only [prodSt]; rw [digI_one]; exact big_one
  | succ i =>
    simp only [prodSt]
    split
    · exact mulF_big
    · rfl
theorem prodF_big (s e : List Int) : bigOK (prodF s e) = true := by
  unfold prodF; split
  · exact prodSt_big _ _ _
  · rfl
theorem powSt_one (k : Nat) : powSt [1] k = ([1], true) := by
  induction k with
  | zero => simp only [powSt]; rw [digI_one]
  | succ k ih =>
    have h := mulF_one big_one
    simp only [powSt, ih]
    rw [if_pos ⟨trivial, h.1⟩, h.2]
theorem pow_one {d : Int} (h : 0 ≤ d ∧ d ≤ 100) : powOK 1 d = true ∧ powF 1 d = [1] := by
  have e := powOK_yes (n := 1) (K := d.toNat) (ds := [1]) ⟨by omega, by omega⟩ (by rw [digI_one]; exact powSt_one _)
  rwa [show (d.toNat : Int) = d by omega] at e
theorem prodOK_neg {s e : List Int} {k : Nat} (hk : k < s.length) (h : ix s k < 0) : prodOK s e = false := by
  have h1 : (prodSt s e (k + 1)).2 = false := by
    simp only [prodSt]
    rw [if_neg]
    rintro ⟨_, h2, _⟩
    rw [powOK_no (by omega)] at h2; cases h2
  have := prodSt_no h1 (show k + 1 ≤ s.length by omega)
  simp [prodOK, this]
/-- n rows are within the bound of a cover -/
noncomputable def agmB (sz : List Int) (w : List RatD) (n : Int) : Bool := decide (0 < scD w) && (prodOK sz (scF w) && (powOK n (scD w : Nat) && decide (cmpB (powF n (scD w : Nat)) (prodF sz (scF w)) ≤ 0)))
theorem agmB_n {sz : List Int} {w : List RatD} {n : Int} (h : n < 0) : agmB sz w n = false := by
  unfold agmB; rw [powOK_no (show ¬ (0 ≤ n ∧ _) from fun h2 => by omega)]; simp
theorem agmB_d {sz : List Int} {w : List RatD} {n : Int} (h : scD w < 1) : agmB sz w n = false := by
  unfold agmB; rw [show scD w = 0 by omega]; simp
theorem agmB_e {sz : List Int} {w : List RatD} {n : Int} (h : 100 < scD w) : agmB sz w n = false := by
  unfold agmB; rw [powOK_no (n := n) (k := (scD w : Nat)) (by omega)]; simp
theorem agmB_s {sz : List Int} {w : List RatD} {n : Int} {k : Nat} (hk : k < sz.length) (h : ix sz k < 0) : agmB sz w n = false := by
  unfold agmB; rw [prodOK_neg hk h]; simp
theorem agmB_b {sz : List Int} {w : List RatD} {n : Int} (h : powOK n (scD w : Nat) = false) : agmB sz w n = false := by unfold agmB; rw [h]; simp
theorem agmB_p {sz : List Int} {w : List RatD} {n : Int} (h : prodOK sz (scF w) = false) : agmB sz w n = false := by unfold agmB; rw [h]; simp
theorem agmB_y {sz : List Int} {w : List RatD} {n : Int} (h0 : 0 < scD w) (h1 : powOK n (scD w : Nat) = true) (h2 : prodOK sz (scF w) = true) : agmB sz w n = decide (cmpB (powF n (scD w : Nat)) (prodF sz (scF w)) ≤ 0) := by
  unfold agmB; rw [h1, h2, decide_eq_true h0]; simp
def multL (n : Int) (l : List Int) : List Int := l.map (· * n)
theorem multL_len (n : Int) (l : List Int) : (multL n l).length = l.length := by simp [multL]
open Classical in
/-- the comparison of the bounds of two covers -/
noncomputable def agmC (sz : List Int) (a b : List RatD) : Int × Bool :=
  if scD a = 0 ∨ scD b = 0 ∨ a.length ≠ sz.length ∨ b.length ≠ sz.length then (0, false) else
    if prodOK sz (multL (scD b : Nat) (scF a)) = true ∧ prodOK sz (multL (scD a : Nat) (scF b)) = true then (cmpB (prodF sz (multL (scD b : Nat) (scF a))) (prodF sz (multL (scD a : Nat) (scF b))), true) else (0, false)
end Go.Proofs.Ytnipfgmldhepkaa
