/- The contracts of big numbers and rationals on abstract values. -/
import Derived.Test.YtjfhjlbofoknfaaZ21
import Derived.Test.YtjfhjlbofoknfaaZD
import Derived.Test.YtjfhjlbofoknfaaN6
import Derived.Test.YtjfhjlbofoknfaaN8
import Derived.Test.YtjfhjlbofoknfaaR2
import Derived.Test.YtjfhjlbofoknfaaN9
import Derived.Test.YtjfhjlbofoknfaaN10
namespace Go.Proofs.Ytjfhjlbofoknfaa
set_option linter.unusedSimpArgs false
set_option linter.unusedVariables false
open Go.RowKit
theorem bigB_afn {f : FuncId} {args : List AV} {ds : List Int} {ok : Bool} (hf : FnOK f) (h : ∀ (w : World) (G : Gh) (vs : List Value), CVs G w args vs → (∀ b i, G.C b i → b < w.heap.size) → Calls Try.prog f vs.toArray w (GvBigB w ds ok)) :
    AFn f args [] (fun r os => r = .tup [.d (bigD ds), .d (.bool ok)] ∧ os = []) := by
  refine afn_of_calls hf fun w G vs h1 h2 => (h w G vs h1 h2).mono ?_
  rintro e w' ⟨a, n, c, rfl, hI, hb⟩
  refine ⟨hb, _, _, rfl, ⟨rfl, rfl⟩, [_, _], rfl, _, _, rfl, big_cv hI (fun b i h1 h2 => .inr ⟨h1, h2⟩), _, _, rfl, cvBool.2 rfl, rfl⟩
theorem leaf_afn {f : FuncId} {args : List AV} {v : Value} {r : AV} (hf : FnOK f) (hv : ∀ G w, CV G w r v) (h : ∀ (w : World) (G : Gh) (vs : List Value), CVs G w args vs → (∀ b i, G.C b i → b < w.heap.size) → Calls Try.prog f vs.toArray w (Leaves w v)) :
    AFn f args [] (fun r' os => r' = r ∧ os = []) := by
  refine afn_of_calls hf fun w G vs h1 h2 => (h w G vs h1 h2).mono ?_
  rintro e w' ⟨rfl, hb⟩
  exact ⟨hb, _, _, rfl, ⟨rfl, rfl⟩, hv _ _⟩
theorem cv_rat {G : Gh} {w : World} {x : RatD} {v : Value} (h : CV G w (.d (ratDV x)) v) : v = ratV x.num x.den ∧ I64 x.num ∧ I64 x.den := by
  obtain ⟨us, h1, rfl⟩ := cvAgg.1 h
  obtain ⟨rfl, h2⟩ := cxs_two.1 h1
  exact ⟨rfl, h2⟩
theorem implValidRatA (x : RatD) : AFn 37 [.d (ratDV x)] [] (fun r os => r = .d (.bool (ratOK x.num x.den)) ∧ os = []) := by
  refine leaf_afn (fnOK (by kernel_rfl)) (fun _ _ => cvBool.2 rfl) ?_
  rintro w G _ ⟨v, _, rfl, h1, rfl⟩ hC
  obtain ⟨rfl, h2, h3⟩ := cv_rat h1
  exact implValidRat _ _ w h2 h3
theorem specValidRatA (x : RatD) : AFn 39 [.d (ratDV x)] [] (fun r os => r = .d (.bool (ratOK x.num x.den)) ∧ os = []) := by
  refine leaf_afn (fnOK (by kernel_rfl)) (fun _ _ => cvBool.2 rfl) ?_
  rintro w G _ ⟨v, _, rfl, h1, rfl⟩ hC
  obtain ⟨rfl, h2, h3⟩ := cv_rat h1
  exact specValidRat _ _ w h2 h3
theorem cmpI_I64 (x y : Int) : I64 (cmpI x y) := by unfold cmpI I64; split <;> (try split) <;> omega
theorem cmpB_I64 (x y : List Int) : I64 (cmpB x y) := by
  have h : ∀ n, I64 (cmpTo x y n) := by
    intro n
    induction n with
    | zero => simp only [cmpTo]; unfold I64; omega
    | succ n ih => simp only [cmpTo]; split; exact ih; exact cmpI_I64 _ _
  unfold cmpB
  split
  · split
    · exact h _
    · exact cmpI_I64 _ _
  · unfold I64; omega
theorem implCmpBigA (x y : List Int) : AFn 14 [.d (bigD x), .d (bigD y)] [] (fun r os => r = .d (.int (cmpB x y)) ∧ os = []) := by
  refine leaf_afn (v := .int .i64 (cmpB x y)) (fnOK (by kernel_rfl)) (fun _ _ => cvInt.2 ⟨rfl, cmpB_I64 x y⟩) ?_
  rintro w G _ ⟨v, _, rfl, h1, v2, _, rfl, h2, rfl⟩ hC
  obtain ⟨a, n, c, rfl, hI⟩ := cv_big hC h1
  obtain ⟨a2, n2, c2, rfl, hJ⟩ := cv_big hC h2
  exact implCmpBig a n c x a2 n2 c2 y w hI (Nat.le_refl _) hJ (Nat.le_refl _)
theorem specCmpBigA (x y : List Int) : AFn 24 [.d (bigD x), .d (bigD y)] [] (fun r os => r = .d (.int (cmpB x y)) ∧ os = []) := by
  refine leaf_afn (v := .int .i64 (cmpB x y)) (fnOK (by kernel_rfl)) (fun _ _ => cvInt.2 ⟨rfl, cmpB_I64 x y⟩) ?_
  rintro w G _ ⟨v, _, rfl, h1, v2, _, rfl, h2, rfl⟩ hC
  obtain ⟨a, n, c, rfl, hI⟩ := cv_big hC h1
  obtain ⟨a2, n2, c2, rfl, hJ⟩ := cv_big hC h2
  exact specCmpBig a n c x a2 n2 c2 y w hI (Nat.le_refl _) hJ (Nat.le_refl _)
theorem implPowA (n k : Int) : AFn 26 [.d (.int n), .d (.int k)] [] (fun r os => r = .tup [.d (bigD (powF n k)), .d (.bool (powOK n k))] ∧ os = []) := by
  refine bigB_afn (fnOK (by kernel_rfl)) ?_
  rintro w G _ ⟨v, _, rfl, h1, v2, _, rfl, h2, rfl⟩ hC
  obtain ⟨rfl, i1⟩ := cvInt.1 h1
  obtain ⟨rfl, i2⟩ := cvInt.1 h2
  exact implPow n k w i1 i2
theorem specPowA (n k : Int) : AFn 29 [.d (.int n), .d (.int k)] [] (fun r os => r = .tup [.d (bigD (powF n k)), .d (.bool (powOK n k))] ∧ os = []) := by
  refine bigB_afn (fnOK (by kernel_rfl)) ?_
  rintro w G _ ⟨v, _, rfl, h1, v2, _, rfl, h2, rfl⟩ hC
  obtain ⟨rfl, i1⟩ := cvInt.1 h1
  obtain ⟨rfl, i2⟩ := cvInt.1 h2
  exact specPow n k w i1 i2
theorem implMulA (x y : List Int) : AFn 27 [.d (bigD x), .d (bigD y)] [] (fun r os => r = .tup [.d (bigD (mulF x y)), .d (.bool (mulOK x y))] ∧ os = []) := by
  refine bigB_afn (fnOK (by kernel_rfl)) ?_
  rintro w G _ ⟨v, _, rfl, h1, v2, _, rfl, h2, rfl⟩ hC
  obtain ⟨a, n, c, rfl, hI⟩ := cv_big hC h1
  obtain ⟨a2, n2, c2, rfl, hJ⟩ := cv_big hC h2
  exact implMul a n c x a2 n2 c2 y w hI (Nat.le_refl _) hJ (Nat.le_refl _)
theorem implProdA (x y : List Int) : AFn 11 [.d (intsD x), .d (intsD y)] [] (fun r os => r = .tup [.d (bigD (prodF x y)), .d (.bool (prodOK x y))] ∧ os = []) := by
  refine bigB_afn (fnOK (by kernel_rfl)) ?_
  rintro w G _ ⟨v, _, rfl, h1, v2, _, rfl, h2, rfl⟩ hC
  obtain ⟨a, n, c, rfl, hI⟩ := cv_ints hC h1
  obtain ⟨a2, n2, c2, rfl, hJ⟩ := cv_ints hC h2
  exact implProd a n c x a2 n2 c2 y w hI (Nat.le_refl _) hJ (Nat.le_refl _)
theorem specProdA (x y : List Int) : AFn 12 [.d (intsD x), .d (intsD y)] [] (fun r os => r = .tup [.d (bigD (prodF x y)), .d (.bool (prodOK x y))] ∧ os = []) := by
  refine bigB_afn (fnOK (by kernel_rfl)) ?_
  rintro w G _ ⟨v, _, rfl, h1, v2, _, rfl, h2, rfl⟩ hC
  obtain ⟨a, n, c, rfl, hI⟩ := cv_ints hC h1
  obtain ⟨a2, n2, c2, rfl, hJ⟩ := cv_ints hC h2
  exact specProd a n c x a2 n2 c2 y w hI (Nat.le_refl _) hJ (Nat.le_refl _)
theorem crD_bd (l : List Int) (n : Nat) : ∀ d ∈ crD l n, 0 ≤ d ∧ d ≤ 9 := by
  induction n with
  | zero => intro d hd; simp [crD] at hd
  | succ n ih =>
    intro d hd
    simp only [crD, List.mem_append, List.mem_singleton] at hd
    rcases hd with hd | rfl
    · exact ih d hd
    · omega
theorem trimN_last (ds : List Int) (n : Nat) : trimN ds n = 0 ∨ ix ds (trimN ds n - 1) ≠ 0 := by
  induction n with
  | zero => left; rfl
  | succ n ih =>
    simp only [trimN]
    split
    · exact ih
    · right; simpa using by assumption
theorem crF_big (l : List Int) : bigOK (crF l) = true := by
  unfold crF
  split
  · rename_i h
    have h1 : trimN (crD l (crN l)) (crN l) ≤ 60 := by simpa [crOK] using h
    have hl : (crRaw l).length = trimN (crD l (crN l)) (crN l) := by
      have := trimN_le (crD l (crN l)) (crN l)
      simp [crRaw, crD_len]; omega
    simp only [bigOK, Bool.and_eq_true, decide_eq_true_eq]
    refine ⟨fun d hd => crD_bd l _ d (List.mem_of_mem_take hd), by omega, ?_⟩
    rw [hl]
    rcases trimN_last (crD l (crN l)) (crN l) with h2 | h2
    · exact .inl h2
    · by_cases h3 : trimN (crD l (crN l)) (crN l) = 0
      · exact .inl h3
      · right
        have : ix (crRaw l) (trimN (crD l (crN l)) (crN l) - 1) = ix (crD l (crN l)) (trimN (crD l (crN l)) (crN l) - 1) := by
          simp only [ix, crRaw, List.getD_eq_getElem?_getD]
          rw [List.getElem?_take_of_lt (by omega)]
        rw [this]; exact h2
  · rfl
theorem mulF_big {a b : List Int} : bigOK (mulF a b) = true := by
  unfold mulF; split
  · exact crF_big _
  · rfl
theorem digI_one : digI 1 = [1] := by
  unfold digI
  rw [show (1 : Int).toNat = 1 from rfl, digN_pos (by omega), show 1 / 10 = 0 from rfl, digN_zero]; rfl
theorem big_one : bigOK [1] = true := by decide
theorem prodSt_big (s e : List Int) (i : Nat) : bigOK (prodSt s e i).1 = true := by
  cases i with
  | zero => simp only [prodSt]; rw [digI_one]; exact big_one
  | succ i =>
    simp only [prodSt]
    split
    · exact mulF_big
    · rfl
theorem prodF_big (s e : List Int) : bigOK (prodF s e) = true := by
  unfold prodF; split
  · exact prodSt_big _ _ _
  · rfl
theorem powSt_one (k : Nat) : powSt [1] k = ([1], true) := by
  induction k with
  | zero => simp only [powSt]; rw [digI_one]
  | succ k ih =>
    have h := mulF_one big_one
    simp only [powSt, ih]
    rw [if_pos ⟨trivial, h.1⟩, h.2]
theorem pow_one {d : Int} (h : 0 ≤ d ∧ d ≤ 100) : powOK 1 d = true ∧ powF 1 d = [1] := by
  have e := powOK_yes (n := 1) (K := d.toNat) (ds := [1]) ⟨by omega, by omega⟩ (by rw [digI_one]; exact powSt_one _)
  rwa [show (d.toNat : Int) = d by omega] at e
theorem prodOK_neg {s e : List Int} {k : Nat} (hk : k < s.length) (h : ix s k < 0) : prodOK s e = false := by
  have h1 : (prodSt s e (k + 1)).2 = false := by
    simp only [prodSt]
    rw [if_neg]
    rintro ⟨_, h2, _⟩
    rw [powOK_no (by omega)] at h2; cases h2
  have := prodSt_no h1 (show k + 1 ≤ s.length by omega)
  simp [prodOK, this]
/-- n rows are within the bound of a cover -/
noncomputable def agmB (sz : List Int) (w : List RatD) (n : Int) : Bool := decide (0 < scD w) && (prodOK sz (scF w) && (powOK n (scD w : Nat) && decide (cmpB (powF n (scD w : Nat)) (prodF sz (scF w)) ≤ 0)))
theorem agmB_n {sz : List Int} {w : List RatD} {n : Int} (h : n < 0) : agmB sz w n = false := by
  unfold agmB; rw [powOK_no (show ¬ (0 ≤ n ∧ _) from fun h2 => by omega)]; simp
theorem agmB_d {sz : List Int} {w : List RatD} {n : Int} (h : scD w < 1) : agmB sz w n = false := by
  unfold agmB; rw [show scD w = 0 by omega]; simp
theorem agmB_e {sz : List Int} {w : List RatD} {n : Int} (h : 100 < scD w) : agmB sz w n = false := by
  unfold agmB; rw [powOK_no (n := n) (k := (scD w : Nat)) (by omega)]; simp
theorem agmB_s {sz : List Int} {w : List RatD} {n : Int} {k : Nat} (hk : k < sz.length) (h : ix sz k < 0) : agmB sz w n = false := by
  unfold agmB; rw [prodOK_neg hk h]; simp
theorem agmB_b {sz : List Int} {w : List RatD} {n : Int} (h : powOK n (scD w : Nat) = false) : agmB sz w n = false := by unfold agmB; rw [h]; simp
theorem agmB_p {sz : List Int} {w : List RatD} {n : Int} (h : prodOK sz (scF w) = false) : agmB sz w n = false := by unfold agmB; rw [h]; simp
theorem agmB_y {sz : List Int} {w : List RatD} {n : Int} (h0 : 0 < scD w) (h1 : powOK n (scD w : Nat) = true) (h2 : prodOK sz (scF w) = true) : agmB sz w n = decide (cmpB (powF n (scD w : Nat)) (prodF sz (scF w)) ≤ 0) := by
  unfold agmB; rw [h1, h2, decide_eq_true h0]; simp
def multL (n : Int) (l : List Int) : List Int := l.map (· * n)
theorem multL_len (n : Int) (l : List Int) : (multL n l).length = l.length := by simp [multL]
open Classical in
/-- the comparison of the bounds of two covers -/
noncomputable def agmC (sz : List Int) (a b : List RatD) : Int × Bool :=
  if scD a = 0 ∨ scD b = 0 ∨ a.length ≠ sz.length ∨ b.length ≠ sz.length then (0, false) else
    if prodOK sz (multL (scD b : Nat) (scF a)) = true ∧ prodOK sz (multL (scD a : Nat) (scF b)) = true then (cmpB (prodF sz (multL (scD b : Nat) (scF a))) (prodF sz (multL (scD a : Nat) (scF b))), true) else (0, false)
/- Big numbers as numbers: the values of sums, products and powers, and what the comparison says; the AGM bound grows. -/
def val : List Int → Int
  | [] => 0
  | d :: l => d + 10 * val l
theorem val_app (l m : List Int) : val (l ++ m) = val l + 10 ^ l.length * val m := by
  induction l with
  | nil => simp [val]
  | cons d l ih => simp only [List.cons_append, val, ih, List.length_cons, Int.pow_succ, Int.mul_add]; rw [Int.mul_comm ((10 : Int) ^ l.length) 10, Int.mul_assoc]; omega
theorem val_one (d : Int) : val [d] = d := by simp [val]
theorem val_take {l : List Int} {i : Nat} (h : i < l.length) : val (l.take (i + 1)) = val (l.take i) + 10 ^ i * ix l i := by
  rw [List.take_succ_eq_append_getElem h, val_app, val_one, ix_lt h, List.length_take, Nat.min_eq_left (by omega)]
theorem val_zeros (n : Nat) : val (List.replicate n 0) = 0 := by
  induction n with
  | zero => rfl
  | succ n ih => rw [List.replicate_succ]; simp only [val, ih]; omega
theorem val_addAt {l : List Int} {t : Nat} (h : t < l.length) (v : Int) : val (addAt l t v) = val l + 10 ^ t * v := by
  unfold addAt
  rw [ix_lt h]
  have e : l = l.take t ++ l[t] :: l.drop (t + 1) := by rw [← List.drop_eq_getElem_cons h, List.take_append_drop]
  have e2 : l.set t (l[t] + v) = l.take t ++ (l[t] + v) :: l.drop (t + 1) := by
    rw [List.set_eq_take_append_cons_drop, if_pos h]
  rw [e2]
  conv => rhs; rw [e]
  rw [val_app, val_app]
  simp only [val, List.length_take, Nat.min_eq_left (show t ≤ l.length by omega), Int.mul_add]
  omega
theorem val_rowTo {l b : List Int} {x : Int} {i : Nat} : ∀ j, j ≤ b.length → i + j ≤ l.length → val (rowTo l x b i j) = val l + 10 ^ i * (x * val (b.take j))
  | 0, _, _ => by simp [rowTo, val]
  | j + 1, hj, hl => by
    simp only [rowTo]
    rw [val_addAt (by rw [rowTo_len]; omega), val_rowTo j (by omega) (by omega), val_take (by omega), Int.pow_add, Int.mul_add, Int.mul_add, Int.add_assoc]
    congr 2
    rw [Int.mul_assoc, ← Int.mul_assoc _ x, ← Int.mul_assoc x, Int.mul_comm ((10 : Int) ^ j) x]
theorem val_mulTo {a b : List Int} : ∀ i, i ≤ a.length → val (mulTo a b i) = val (a.take i) * val b
  | 0, _ => by simp [mulTo, val_zeros, val]
  | i + 1, hi => by
    simp only [mulTo]
    rw [val_rowTo _ (Nat.le_refl _) (by rw [mulTo_len]; omega), val_mulTo i (by omega), List.take_length, val_take (by omega), Int.add_mul, Int.mul_assoc]
theorem val_cr (l : List Int) : ∀ i, val (crD l i) + 10 ^ i * crC l i = val (l.take i)
  | 0 => by simp [crD, crC, val]
  | i + 1 => by
    have ih := val_cr l i
    have e : val (l.take (i + 1)) = val (l.take i) + 10 ^ i * (if i < l.length then ix l i else 0) := by
      split
      · exact val_take (by assumption)
      · rw [List.take_of_length_le (by omega), List.take_of_length_le (by omega)]; simp
    rw [e, ← ih]
    simp only [crD, crC]
    rw [val_app, val_one, crD_len]
    generalize hs : crC l i + (if i < l.length then ix l i else 0) = s
    have h1 : (if i < l.length then ix l i else 0) = s - crC l i := by omega
    rw [h1, Int.pow_succ]
    have h2 := Int.mul_ediv_add_emod s 10
    generalize (10 : Int) ^ i = p
    have h3 : p * (s % 10) + p * 10 * (s / 10) = p * s := by
      rw [Int.mul_assoc, ← Int.mul_add]; congr 1; omega
    rw [Int.mul_sub]; omega
theorem val_trim (ds : List Int) : ∀ n, n ≤ ds.length → val (ds.take (trimN ds n)) = val (ds.take n)
  | 0, _ => rfl
  | n + 1, h => by
    simp only [trimN]
    split
    · rename_i h0
      rw [val_trim ds n (by omega), val_take (by omega), h0]; simp
    · rfl
theorem val_crRaw {l : List Int} (h : Bd 300000 l) : val (crRaw l) = val l := by
  obtain ⟨⟨h1, h2⟩, _⟩ := crN_spec h
  unfold crRaw
  have e1 := val_trim (crD l (crN l)) (crN l) (by rw [crD_len]; omega)
  rw [e1]
  have e2 := val_cr l (crN l)
  rw [h2, List.take_of_length_le h1] at e2
  rw [List.take_of_length_le (by rw [crD_len]; omega)]
  omega
theorem pow10 (n : Nat) : (1 : Int) ≤ 10 ^ n := by
  have : (0 : Int) < 10 ^ n := Int.pow_pos (by omega)
  omega
theorem val_bd {l : List Int} (h : ∀ d ∈ l, 0 ≤ d ∧ d ≤ 9) : 0 ≤ val l ∧ val l < 10 ^ l.length := by
  induction l with
  | nil => simp [val]
  | cons d l ih =>
    have h1 := h d (List.mem_cons_self ..)
    have h2 := ih (fun e he => h e (List.mem_cons_of_mem _ he))
    simp only [val, List.length_cons, Int.pow_succ]
    omega
theorem take_bd {l : List Int} (h : ∀ d ∈ l, 0 ≤ d ∧ d ≤ 9) (i : Nat) : ∀ d ∈ l.take i, 0 ≤ d ∧ d ≤ 9 := fun d hd => h d (List.mem_of_mem_take hd)
theorem val_lo {l : List Int} (h : ∀ d ∈ l, 0 ≤ d ∧ d ≤ 9) (h0 : 0 < l.length) (h1 : ix l (l.length - 1) ≠ 0) : (10 : Int) ^ (l.length - 1) ≤ val l := by
  have e := val_take (l := l) (i := l.length - 1) (by omega)
  rw [show l.length - 1 + 1 = l.length by omega, List.take_length] at e
  have h2 := (val_bd (take_bd h (l.length - 1))).1
  have h3 := ix_bd h (l.length - 1)
  have h4 : (10 : Int) ^ (l.length - 1) * 1 ≤ 10 ^ (l.length - 1) * ix l (l.length - 1) := Int.mul_le_mul_of_nonneg_left (by omega) (by have := pow10 (l.length - 1); omega)
  omega
theorem pow10_mono {a b : Nat} (h : a ≤ b) : (10 : Int) ^ a ≤ 10 ^ b := by
  obtain ⟨c, rfl⟩ := Nat.le.dest h
  rw [Int.pow_add]
  have h1 := pow10 a
  have h2 := pow10 c
  have := Int.mul_le_mul_of_nonneg_left h2 (show (0 : Int) ≤ 10 ^ a by omega)
  omega
theorem crOK_val {l : List Int} (h : Bd 300000 l) : crOK l = true ↔ val l < 10 ^ 60 := by
  rw [← val_crRaw h]
  have hl : (crRaw l).length = trimN (crD l (crN l)) (crN l) := by
    have := trimN_le (crD l (crN l)) (crN l)
    simp [crRaw, crD_len]; omega
  have hb : ∀ d ∈ crRaw l, 0 ≤ d ∧ d ≤ 9 := fun d hd => crD_bd l _ d (List.mem_of_mem_take hd)
  simp only [crOK, decide_eq_true_eq]
  rw [← hl]
  constructor
  · intro h1
    have := (val_bd hb).2
    have := pow10_mono h1
    omega
  · intro h1
    refine Nat.le_of_not_lt fun h2 => ?_
    have h3 : ix (crRaw l) ((crRaw l).length - 1) ≠ 0 := by
      have h4 : ix (crRaw l) ((crRaw l).length - 1) = ix (crD l (crN l)) ((crRaw l).length - 1) := by
        simp only [ix, crRaw, List.getD_eq_getElem?_getD]
        rw [List.getElem?_take_of_lt (by unfold crRaw at hl h2; omega)]
      rw [h4, hl]
      rcases trimN_last (crD l (crN l)) (crN l) with h5 | h5
      · omega
      · exact h5
    have := val_lo hb (by omega) h3
    have := pow10_mono (show 60 ≤ (crRaw l).length - 1 by omega)
    omega
theorem mulOK_iff (a b : List Int) : mulOK a b = true ↔ bigOK a = true ∧ bigOK b = true ∧ val a * val b < 10 ^ 60 := by
  simp only [mulOK, Bool.and_eq_true]
  constructor
  · rintro ⟨h1, h2, h3⟩
    have := (crOK_val (mulTo_small h1 h2 (Nat.le_refl _))).1 h3
    rw [val_mulTo _ (Nat.le_refl _), List.take_length] at this
    exact ⟨h1, h2, this⟩
  · rintro ⟨h1, h2, h3⟩
    refine ⟨h1, h2, (crOK_val (mulTo_small h1 h2 (Nat.le_refl _))).2 ?_⟩
    rw [val_mulTo _ (Nat.le_refl _), List.take_length]; exact h3
theorem val_mulF {a b : List Int} (h : mulOK a b = true) : val (mulF a b) = val a * val b := by
  obtain ⟨h1, h2, h3⟩ := (mulOK_iff a b).1 h
  have hs := mulTo_small h1 h2 (Nat.le_refl _)
  unfold mulF
  rw [if_pos h]
  unfold crF
  have h4 : crOK (mulTo a b a.length) = true := by simp only [mulOK, Bool.and_eq_true] at h; exact h.2.2
  rw [if_pos h4, val_crRaw hs, val_mulTo _ (Nat.le_refl _), List.take_length]
theorem val_nn {a : List Int} (h : bigOK a = true) : 0 ≤ val a := (val_bd (bigOK_out h).1).1
theorem powSt_big (b : List Int) (k : Nat) : bigOK (powSt b k).1 = true := by
  cases k with
  | zero => simp only [powSt]; rw [digI_one]; exact big_one
  | succ k =>
    simp only [powSt]
    split
    · exact mulF_big
    · rfl
theorem powSt_mono {b c : List Int} (hb : bigOK b = true) (hv : val b ≤ val c) : ∀ k, (powSt c k).2 = true → (powSt b k).2 = true ∧ val (powSt b k).1 ≤ val (powSt c k).1
  | 0, _ => ⟨rfl, Int.le_refl _⟩
  | k + 1, h => by
    simp only [powSt] at h ⊢
    split at h
    · rename_i h1
      obtain ⟨h2, h3⟩ := powSt_mono hb hv k h1.1
      obtain ⟨m1, m2, m3⟩ := (mulOK_iff _ _).1 h1.2
      have hle : val (powSt b k).1 * val b ≤ val (powSt c k).1 * val c := Int.mul_le_mul h3 hv (val_nn hb) (val_nn m1)
      have hok : mulOK (powSt b k).1 b = true := (mulOK_iff _ _).2 ⟨powSt_big _ _, hb, by omega⟩
      rw [if_pos ⟨h2, hok⟩]
      refine ⟨rfl, ?_⟩
      show val (mulF _ _) ≤ val (if _ then _ else _ : List Int × Bool).1
      rw [if_pos h1, val_mulF hok]
      show _ ≤ val (mulF _ _)
      rw [val_mulF h1.2]; exact hle
    · cases h
theorem val_digN (n : Nat) : val (digN n) = n := by
  induction n using Nat.strongRecOn with
  | _ n ih =>
    by_cases h0 : n = 0
    · subst h0; rw [digN_zero]; rfl
    · rw [digN_pos (by omega)]
      simp only [val, ih (n / 10) (by omega)]
      omega
theorem digN_last (n : Nat) : (digN n).length = 0 ∨ ix (digN n) ((digN n).length - 1) ≠ 0 := by
  induction n using Nat.strongRecOn with
  | _ n ih =>
    by_cases h0 : n = 0
    · subst h0; rw [digN_zero]; exact .inl rfl
    · rw [digN_pos (by omega)]
      right
      by_cases h1 : n / 10 = 0
      · rw [h1, digN_zero]
        simp only [List.length_cons, List.length_nil, ix]
        simp; omega
      · rcases ih (n / 10) (by omega) with h2 | h2
        · exfalso
          rw [digN_pos (by omega)] at h2
          simp at h2
        · have h3 : 0 < (digN (n / 10)).length := by rw [digN_pos (by omega)]; simp
          have e : ix ((((n % 10 : Nat) : Int)) :: digN (n / 10)) ((((n % 10 : Nat) : Int) :: digN (n / 10)).length - 1) = ix (digN (n / 10)) ((digN (n / 10)).length - 1) := by
            simp only [List.length_cons, Nat.add_sub_cancel]
            obtain ⟨j, hj⟩ : ∃ j, (digN (n / 10)).length = j + 1 := ⟨_, (Nat.succ_pred_eq_of_pos h3).symm⟩
            rw [hj]
            simp [ix]
          rw [e]; exact h2
theorem digN_big {n k : Nat} (h : n < 10 ^ 60) : bigOK (digN n) = true := by
  simp only [bigOK, Bool.and_eq_true, decide_eq_true_eq]
  exact ⟨digN_bd n, digN_len 60 n h, digN_last n⟩
theorem pow_down {n d : Int} (hn : 1 ≤ n) (h : powOK n d = true) : powOK (n - 1) d = true ∧ val (powF (n - 1) d) ≤ val (powF n d) := by
  have h0 := h
  simp only [powOK, Bool.and_eq_true, decide_eq_true_eq] at h
  obtain ⟨⟨h1, h2, h3⟩, h4⟩ := h
  have key : (powSt (digI (n - 1)) d.toNat).2 = true ∧ val (powSt (digI (n - 1)) d.toNat).1 ≤ val (powSt (digI n) d.toNat).1 := by
    by_cases hd : d.toNat = 0
    · rw [hd]; exact ⟨rfl, Int.le_refl _⟩
    · obtain ⟨k, hk⟩ : ∃ k, d.toNat = k + 1 := ⟨d.toNat - 1, by omega⟩
      have hb : bigOK (digI n) = true := by
        rw [hk] at h4
        simp only [powSt] at h4
        split at h4
        · rename_i h5; exact ((mulOK_iff _ _).1 h5.2).2.1
        · cases h4
      have hv : val (digI n) < 10 ^ 60 := by
        have := (val_bd (bigOK_out hb).1).2
        have := pow10_mono (bigOK_out hb).2
        omega
      have e1 : val (digI n) = n := by unfold digI; rw [val_digN]; omega
      have e2 : val (digI (n - 1)) = n - 1 := by unfold digI; rw [val_digN]; omega
      rw [e1] at hv
      refine powSt_mono ?_ (by omega) _ h4
      unfold digI
      refine digN_big (k := 0) ?_
      have : ((n - 1).toNat : Int) < ((10 ^ 60 : Nat) : Int) := by
        have e3 : ((10 ^ 60 : Nat) : Int) = (10 : Int) ^ 60 := by decide
        rw [e3]; omega
      exact Int.ofNat_lt.1 this
  have hok : powOK (n - 1) d = true := by
    simp only [powOK, Bool.and_eq_true, decide_eq_true_eq]
    exact ⟨⟨by omega, h2, h3⟩, key.1⟩
  refine ⟨hok, ?_⟩
  unfold powF
  rw [if_pos hok, if_pos h0]; exact key.2
theorem powF_big (n d : Int) : bigOK (powF n d) = true := by
  unfold powF; split
  · exact powSt_big _ _
  · rfl
theorem cmpTo_val {xs ys : List Int} (hx : ∀ d ∈ xs, 0 ≤ d ∧ d ≤ 9) (hy : ∀ d ∈ ys, 0 ≤ d ∧ d ≤ 9) : ∀ k, k ≤ xs.length → k ≤ ys.length → (cmpTo xs ys k ≤ 0 ↔ val (xs.take k) ≤ val (ys.take k))
  | 0, _, _ => by simp [cmpTo]
  | k + 1, h1, h2 => by
    have ih := cmpTo_val hx hy k (by omega) (by omega)
    have bx := val_bd (take_bd hx k)
    have by' := val_bd (take_bd hy k)
    rw [List.length_take, Nat.min_eq_left (by omega)] at bx by'
    rw [val_take (by omega), val_take (by omega)]
    simp only [cmpTo]
    have hp := pow10 k
    generalize (10 : Int) ^ k = p at *
    split
    · rename_i e
      rw [e, ih]; omega
    · rename_i e
      rcases Int.lt_or_lt_of_ne e with h | h
      · rw [cmpI_lt h]
        have : p * (ix xs k + 1) ≤ p * ix ys k := Int.mul_le_mul_of_nonneg_left (by omega) (by omega)
        rw [Int.mul_add] at this
        constructor <;> intro <;> omega
      · rw [cmpI_gt h]
        have : p * (ix ys k + 1) ≤ p * ix xs k := Int.mul_le_mul_of_nonneg_left (by omega) (by omega)
        rw [Int.mul_add] at this
        constructor <;> intro <;> omega
theorem cmpB_val {xs ys : List Int} (hx : bigOK xs = true) (hy : bigOK ys = true) : cmpB xs ys ≤ 0 ↔ val xs ≤ val ys := by
  have dx := (bigOK_out hx).1
  have dy := (bigOK_out hy).1
  have lx : xs.length = 0 ∨ ix xs (xs.length - 1) ≠ 0 := by simp only [bigOK, Bool.and_eq_true, decide_eq_true_eq] at hx; exact hx.2.2
  have ly : ys.length = 0 ∨ ix ys (ys.length - 1) ≠ 0 := by simp only [bigOK, Bool.and_eq_true, decide_eq_true_eq] at hy; exact hy.2.2
  by_cases hl : xs.length = ys.length
  · rw [cmpB_eq hx hy hl, cmpTo_val dx dy _ (Nat.le_refl _) (by omega), List.take_length, hl, List.take_length]
  · rw [cmpB_len hx hy hl]
    have key : ∀ u v : List Int, (∀ d ∈ u, 0 ≤ d ∧ d ≤ 9) → (∀ d ∈ v, 0 ≤ d ∧ d ≤ 9) → (v.length = 0 ∨ ix v (v.length - 1) ≠ 0) → u.length < v.length → val u < val v := fun u v ha hb hlb hlt => by
      have h1 := (val_bd ha).2
      have h2 := val_lo hb (by omega) (by rcases hlb with h | h; omega; exact h)
      have h3 := pow10_mono (show u.length ≤ v.length - 1 by omega)
      omega
    rcases Nat.lt_or_gt_of_ne hl with h | h
    · rw [cmpI_lt (by omega)]
      have := key xs ys dx dy ly h
      constructor <;> intro <;> omega
    · rw [cmpI_gt (by omega)]
      have := key ys xs dy dx lx h
      constructor <;> intro <;> omega
/-- the bound grows -/
theorem agmB_down {sz : List Int} {w : List RatD} {n : Int} (hn : 1 ≤ n) (h : agmB sz w n = true) : agmB sz w (n - 1) = true := by
  simp only [agmB, Bool.and_eq_true, decide_eq_true_eq] at h ⊢
  obtain ⟨h1, h2, h3, h4⟩ := h
  obtain ⟨g1, g2⟩ := pow_down hn h3
  refine ⟨h1, h2, g1, ?_⟩
  rw [cmpB_val (powF_big _ _) (prodF_big _ _)] at h4 ⊢
  omega
theorem cmpI_neg (x y : Int) : cmpI y x = - cmpI x y := by
  unfold cmpI
  split <;> split <;> (try split) <;> omega
theorem cmpTo_neg (xs ys : List Int) : ∀ k, cmpTo ys xs k = - cmpTo xs ys k
  | 0 => rfl
  | k + 1 => by
    simp only [cmpTo]
    by_cases e : ix xs k = ix ys k
    · rw [if_pos e, if_pos e.symm]; exact cmpTo_neg xs ys k
    · rw [if_neg e, if_neg (fun h => e h.symm)]; exact cmpI_neg _ _
theorem cmpB_neg (xs ys : List Int) : cmpB ys xs = - cmpB xs ys := by
  unfold cmpB
  rw [Bool.and_comm]
  split
  · by_cases e : xs.length = ys.length
    · rw [if_pos e, if_pos e.symm, e]; exact cmpTo_neg _ _ _
    · rw [if_neg e, if_neg (fun h => e h.symm)]; exact cmpI_neg _ _
  · rfl
theorem cmpB_self (xs : List Int) : cmpB xs xs = 0 := by
  have := cmpB_neg xs xs
  omega
theorem agmC_swap (sz : List Int) (a b : List RatD) : agmC sz b a = (-(agmC sz a b).1, (agmC sz a b).2) := by
  unfold agmC
  by_cases h : scD a = 0 ∨ scD b = 0 ∨ a.length ≠ sz.length ∨ b.length ≠ sz.length
  · rw [if_pos h, if_pos (by rcases h with h | h | h | h; exact .inr (.inl h); exact .inl h; exact .inr (.inr (.inr h)); exact .inr (.inr (.inl h)))]; rfl
  · rw [if_neg h, if_neg (fun g => h (by rcases g with h | h | h | h; exact .inr (.inl h); exact .inl h; exact .inr (.inr (.inr h)); exact .inr (.inr (.inl h))))]
    by_cases h2 : prodOK sz (multL (scD b : Nat) (scF a)) = true ∧ prodOK sz (multL (scD a : Nat) (scF b)) = true
    · rw [if_pos h2, if_pos ⟨h2.2, h2.1⟩, cmpB_neg]
    · rw [if_neg h2, if_neg (fun g => h2 ⟨g.2, g.1⟩)]; rfl
end Go.Proofs.Ytjfhjlbofoknfaa
