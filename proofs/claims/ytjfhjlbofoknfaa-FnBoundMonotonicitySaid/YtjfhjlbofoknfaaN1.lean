/- Big numbers as lists of digits: the plain law of their sums. -/
import Derived.Test.YtjfhjlbofoknfaaBase
namespace Go.Proofs.Ytjfhjlbofoknfaa
set_option linter.unusedSimpArgs false
set_option linter.unusedVariables false
open Go.RowKit
/-- the decimal digits of a number, the lowest first -/
def digN (n : Nat) : List Int := if h : n = 0 then [] else ((n % 10 : Nat) : Int) :: digN (n / 10)
termination_by n
decreasing_by omega
theorem digN_zero : digN 0 = [] := by unfold digN; simp
theorem digN_pos {n : Nat} (h : 0 < n) : digN n = ((n % 10 : Nat) : Int) :: digN (n / 10) := by rw [digN]; rw [dif_neg (by omega)]
theorem digN_len (k : Nat) : ∀ n : Nat, n < 10 ^ k → (digN n).length ≤ k := by
  induction k with
  | zero => intro n h; obtain rfl : n = 0 := by simpa using h
            rw [digN_zero]; simp
  | succ k ih =>
    intro n h
    by_cases h0 : n = 0
    · subst h0; rw [digN_zero]; simp
    · rw [digN_pos (by omega)]
      have := ih (n / 10) (by rw [Nat.div_lt_iff_lt_mul (by omega), ← Nat.pow_succ]; exact h)
      simp; omega
theorem digN_bd (n : Nat) : ∀ d ∈ digN n, 0 ≤ d ∧ d ≤ 9 := by
  induction n using Nat.strongRecOn with
  | _ n ih =>
    by_cases h0 : n = 0
    · subst h0; rw [digN_zero]; intro d hd; simp at hd
    · rw [digN_pos (by omega)]
      intro d hd
      rcases List.mem_cons.1 hd with rfl | hd
      · omega
      · exact ih (n / 10) (by omega) d hd
def digI (x : Int) : List Int := digN x.toNat
/-- a list of digits is a big number -/
def bigOK (ds : List Int) : Bool := decide (∀ d ∈ ds, 0 ≤ d ∧ d ≤ 9) && (decide (ds.length ≤ 60) && decide (ds.length = 0 ∨ ix ds (ds.length - 1) ≠ 0))
theorem bigOK_out {ds : List Int} (h : bigOK ds = true) : (∀ d ∈ ds, 0 ≤ d ∧ d ≤ 9) ∧ ds.length ≤ 60 := by
  simp only [bigOK, Bool.and_eq_true, decide_eq_true_eq] at h; exact ⟨h.1, h.2.1⟩
theorem bigOK_bad {ds : List Int} {i : Nat} (hi : i < ds.length) (h : ¬ (0 ≤ ix ds i ∧ ix ds i ≤ 9)) : bigOK ds = false := by
  have : ¬ ∀ d ∈ ds, 0 ≤ d ∧ d ≤ 9 := fun g => h (by rw [ix_lt hi]; exact g _ (List.getElem_mem _))
  simp [bigOK, this]
theorem all_ix {ds : List Int} (h : ∀ i, i < ds.length → 0 ≤ ix ds i ∧ ix ds i ≤ 9) : ∀ d ∈ ds, 0 ≤ d ∧ d ≤ 9 := fun d hd => by
  obtain ⟨i, hi, rfl⟩ := List.getElem_of_mem hd
  have := h i hi
  rwa [ix_lt hi] at this
theorem bigOK_eq {ds : List Int} (h : ∀ i, i < ds.length → 0 ≤ ix ds i ∧ ix ds i ≤ 9) : bigOK ds = (decide (ds.length ≤ 60) && decide (ds.length = 0 ∨ ix ds (ds.length - 1) ≠ 0)) := by
  have := all_ix h
  simp only [bigOK, decide_eq_true this, Bool.true_and]
/-- the number at place t goes up by v -/
def addAt (l : List Int) (t : Nat) (v : Int) : List Int := l.set t (ix l t + v)
theorem addAt_len (l : List Int) (t : Nat) (v : Int) : (addAt l t v).length = l.length := by simp [addAt]
def rowTo (l : List Int) (x : Int) (b : List Int) (i : Nat) : Nat → List Int
  | 0 => l
  | j + 1 => addAt (rowTo l x b i j) (i + j) (x * ix b j)
def mulTo (a b : List Int) : Nat → List Int
  | 0 => List.replicate (a.length + b.length) 0
  | i + 1 => rowTo (mulTo a b i) (ix a i) b i b.length
theorem rowTo_len (l : List Int) (x : Int) (b : List Int) (i j : Nat) : (rowTo l x b i j).length = l.length := by
  induction j with
  | zero => rfl
  | succ j ih => simp [rowTo, addAt_len, ih]
theorem mulTo_len (a b : List Int) (i : Nat) : (mulTo a b i).length = a.length + b.length := by
  induction i with
  | zero => simp [mulTo]
  | succ i ih => simp [mulTo, rowTo_len, ih]
/-- all numbers of a list lie between 0 and B -/
def Bd (B : Int) (l : List Int) : Prop := ∀ i, 0 ≤ ix l i ∧ ix l i ≤ B
theorem Bd.addAt {B v : Int} {l : List Int} (h : Bd B l) (t : Nat) (h0 : 0 ≤ v) {C : Int} (hv : v ≤ C) : Bd (B + C) (addAt l t v) := fun i => by
  have h1 := h i
  unfold Proofs.Ytjfhjlbofoknfaa.addAt
  by_cases e : t = i
  · subst e
    by_cases hl : t < l.length
    · rw [ix_lt (by simpa using hl)]
      simp; omega
    · have e2 : l.set t (ix l t + v) = l := List.set_eq_of_length_le (by omega)
      rw [e2]; omega
  · have e2 : ix (l.set t (ix l t + v)) i = ix l i := by simp [ix, List.getElem?_set_ne e]
    rw [e2]; omega
theorem mul81 {x y : Int} (hx : 0 ≤ x ∧ x ≤ 9) (hy : 0 ≤ y ∧ y ≤ 9) : 0 ≤ x * y ∧ x * y ≤ 81 := by
  refine ⟨Int.mul_nonneg hx.1 hy.1, ?_⟩
  have h1 : x * y ≤ 9 * y := Int.mul_le_mul_of_nonneg_right hx.2 hy.1
  omega
theorem ix_bd {l : List Int} (h : ∀ d ∈ l, 0 ≤ d ∧ d ≤ 9) (i : Nat) : 0 ≤ ix l i ∧ ix l i ≤ 9 := by
  by_cases hi : i < l.length
  · rw [ix_lt hi]; exact h _ (List.getElem_mem _)
  · have : ix l i = 0 := by simp [ix, List.getElem?_eq_none (Nat.le_of_not_lt hi)]
    omega
theorem rowTo_bd {B x : Int} {l b : List Int} (h : Bd B l) (hx : 0 ≤ x ∧ x ≤ 9) (hb : ∀ d ∈ b, 0 ≤ d ∧ d ≤ 9) (i j : Nat) : Bd (B + 81 * j) (rowTo l x b i j) := by
  induction j with
  | zero => simpa [rowTo] using h
  | succ j ih =>
    have h1 := mul81 hx (ix_bd hb j)
    have := ih.addAt (i + j) h1.1 h1.2
    rw [show B + 81 * ((j + 1 : Nat) : Int) = B + 81 * (j : Int) + 81 by omega]
    exact this
theorem mulTo_bd {a b : List Int} (ha : ∀ d ∈ a, 0 ≤ d ∧ d ≤ 9) (hb : ∀ d ∈ b, 0 ≤ d ∧ d ≤ 9) (i : Nat) : Bd (81 * (b.length * i : Nat)) (mulTo a b i) := by
  induction i with
  | zero =>
    intro t
    have : ix (mulTo a b 0) t = 0 := by
      simp only [mulTo, ix]
      by_cases h : t < a.length + b.length
      · simp [h]
      · simp [List.getElem?_eq_none (show (List.replicate (a.length + b.length) (0 : Int)).length ≤ t by simp; omega)]
    omega
  | succ i ih =>
    have := rowTo_bd ih (ix_bd ha i) hb i b.length
    rw [show (81 * ((b.length * (i + 1) : Nat) : Int)) = 81 * ((b.length * i : Nat) : Int) + 81 * (b.length : Int) by rw [Nat.mul_succ]; omega]
    exact this
theorem mulTo_small {a b : List Int} (ha : bigOK a = true) (hb : bigOK b = true) {i : Nat} (hi : i ≤ a.length) : Bd 300000 (mulTo a b i) := by
  have h1 := bigOK_out ha; have h2 := bigOK_out hb
  have := mulTo_bd h1.1 h2.1 i
  have h3 : b.length * i ≤ 60 * 60 := Nat.mul_le_mul h2.2 (by omega)
  intro t; have := this t; omega
theorem rowTo_small {a b : List Int} (ha : bigOK a = true) (hb : bigOK b = true) {i j : Nat} (hi : i < a.length) (hj : j ≤ b.length) : Bd 300000 (rowTo (mulTo a b i) (ix a i) b i j) := by
  have h1 := bigOK_out ha; have h2 := bigOK_out hb
  have := rowTo_bd (mulTo_bd h1.1 h2.1 i) (ix_bd h1.1 i) h2.1 i j
  have h3 : b.length * i ≤ 60 * 60 := Nat.mul_le_mul h2.2 (by omega)
  intro t; have := this t; omega
/-- the carry before place i -/
def crC (l : List Int) : Nat → Int
  | 0 => 0
  | i + 1 => (crC l i + (if i < l.length then ix l i else 0)) / 10
/-- the digits of the first i places -/
def crD (l : List Int) : Nat → List Int
  | 0 => []
  | i + 1 => crD l i ++ [(crC l i + (if i < l.length then ix l i else 0)) % 10]
theorem crD_len (l : List Int) (i : Nat) : (crD l i).length = i := by
  induction i with
  | zero => rfl
  | succ i ih => simp [crD, ih]
theorem crC_bd {l : List Int} (h : Bd 300000 l) (i : Nat) : 0 ≤ crC l i ∧ crC l i ≤ 300000 := by
  induction i with
  | zero => simp [crC]
  | succ i ih =>
    have h1 := h i
    simp only [crC]
    split <;> omega
theorem crC_down {l : List Int} (h : Bd 300000 l) (k : Nat) : crC l (l.length + k) = 0 ∨ crC l (l.length + k) ≤ 300000 - k := by
  induction k with
  | zero => right; have := crC_bd h l.length; simpa using this.2
  | succ k ih =>
    have h1 := crC_bd h (l.length + k)
    rw [show l.length + (k + 1) = l.length + k + 1 by omega]
    simp only [crC, if_neg (show ¬ l.length + k < l.length by omega)]
    omega
open Classical in
/-- how many places there are until nothing is carried -/
noncomputable def crN (l : List Int) : Nat := leastOf (fun i => l.length ≤ i ∧ crC l i = 0)
theorem crN_spec {l : List Int} (h : Bd 300000 l) : (l.length ≤ crN l ∧ crC l (crN l) = 0) ∧ ∀ i, l.length ≤ i → crC l i = 0 → crN l ≤ i := by
  have hex : ∃ n, l.length ≤ n ∧ crC l n = 0 := by
    refine ⟨l.length + 300001, by omega, ?_⟩
    have h1 := crC_down h 300001
    have h2 := crC_bd h (l.length + 300001)
    omega
  have := leastOf_spec hex
  exact ⟨this.1, fun i h1 h2 => this.2 i ⟨h1, h2⟩⟩
theorem crN_le {l : List Int} (h : Bd 300000 l) : crN l ≤ l.length + 300001 := by
  refine (crN_spec h).2 _ (by omega) ?_
  have h1 := crC_down h 300001
  have h2 := crC_bd h (l.length + 300001)
  omega
/-- without the zeros at its end -/
def trimN (ds : List Int) : Nat → Nat
  | 0 => 0
  | n + 1 => if ix ds n = 0 then trimN ds n else n + 1
theorem trimN_le (ds : List Int) (n : Nat) : trimN ds n ≤ n := by
  induction n with
  | zero => exact Nat.le_refl _
  | succ n ih => simp only [trimN]; split <;> omega
noncomputable def crRaw (l : List Int) : List Int := (crD l (crN l)).take (trimN (crD l (crN l)) (crN l))
/-- the sum of a list of places: its digits, and whether it is small enough -/
noncomputable def crOK (l : List Int) : Bool := decide (trimN (crD l (crN l)) (crN l) ≤ 60)
noncomputable def crF (l : List Int) : List Int := if crOK l = true then crRaw l else []
noncomputable def mulOK (a b : List Int) : Bool := bigOK a && (bigOK b && crOK (mulTo a b a.length))
noncomputable def mulF (a b : List Int) : List Int := if mulOK a b = true then crF (mulTo a b a.length) else []
theorem crF_len (l : List Int) : (crF l).length ≤ 60 := by
  unfold crF
  split
  · rename_i h
    simp only [crOK, decide_eq_true_eq] at h
    unfold crRaw; simp only [List.length_take]; omega
  · simp
theorem mulF_len (a b : List Int) : (mulF a b).length ≤ 60 := by
  unfold mulF
  split
  · exact crF_len _
  · simp
/-- powers: the digits and whether all went well -/
noncomputable def powSt (b : List Int) : Nat → List Int × Bool
  | 0 => (digI 1, true)
  | k + 1 => if (powSt b k).2 = true ∧ mulOK (powSt b k).1 b = true then (mulF (powSt b k).1 b, true) else ([], false)
noncomputable def powOK (n k : Int) : Bool := decide (0 ≤ n ∧ 0 ≤ k ∧ k ≤ 100) && (powSt (digI n) k.toNat).2
noncomputable def powF (n k : Int) : List Int := if powOK n k = true then (powSt (digI n) k.toNat).1 else []
/-- products of powers -/
noncomputable def prodSt (sz ex : List Int) : Nat → List Int × Bool
  | 0 => (digI 1, true)
  | i + 1 => if (prodSt sz ex i).2 = true ∧ powOK (ix sz i) (ix ex i) = true ∧ mulOK (prodSt sz ex i).1 (powF (ix sz i) (ix ex i)) = true then (mulF (prodSt sz ex i).1 (powF (ix sz i) (ix ex i)), true) else ([], false)
noncomputable def prodOK (sz ex : List Int) : Bool := decide (sz.length = ex.length) && (prodSt sz ex sz.length).2
noncomputable def prodF (sz ex : List Int) : List Int := if prodOK sz ex = true then (prodSt sz ex sz.length).1 else []
theorem powSt_len (b : List Int) (k : Nat) : (powSt b k).1.length ≤ 60 := by
  cases k with
  | zero => simp only [powSt]; have := digN_len 1 1 (by decide); unfold digI; simp at this ⊢; omega
  | succ k => simp only [powSt]; split
              · exact mulF_len _ _
              · simp
theorem powF_len (n k : Int) : (powF n k).length ≤ 60 := by
  unfold powF; split
  · exact powSt_len _ _
  · simp
theorem prodSt_len (a b : List Int) (k : Nat) : (prodSt a b k).1.length ≤ 60 := by
  cases k with
  | zero => simp only [prodSt]; have := digN_len 1 1 (by decide); unfold digI; simp at this ⊢; omega
  | succ k => simp only [prodSt]; split
              · exact mulF_len _ _
              · simp
theorem prodF_len (a b : List Int) : (prodF a b).length ≤ 60 := by
  unfold prodF; split
  · exact prodSt_len _ _ _
  · simp
theorem powSt_no {b : List Int} {k m : Nat} (h : (powSt b k).2 = false) (hm : k ≤ m) : (powSt b m).2 = false := by
  induction m with
  | zero => obtain rfl : k = 0 := by omega
            exact h
  | succ m ih =>
    by_cases e : k = m + 1
    · subst e; exact h
    · have := ih (by omega)
      simp [powSt, this]
theorem prodSt_no {a b : List Int} {k m : Nat} (h : (prodSt a b k).2 = false) (hm : k ≤ m) : (prodSt a b m).2 = false := by
  induction m with
  | zero => obtain rfl : k = 0 := by omega
            exact h
  | succ m ih =>
    by_cases e : k = m + 1
    · subst e; exact h
    · have := ih (by omega)
      simp [prodSt, this]
end Go.Proofs.Ytjfhjlbofoknfaa
