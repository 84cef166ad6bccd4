/- The contracts of big numbers and rationals on abstract values. -/
import Derived.Test.YtnipfgmldhepkaaZ21
import Derived.Test.YtnipfgmldhepkaaZD
import Derived.Test.YtnipfgmldhepkaaN6
import Derived.Test.YtnipfgmldhepkaaN8
import Derived.Test.YtnipfgmldhepkaaR2
import Derived.Test.YtnipfgmldhepkaaN9
import Derived.Test.YtnipfgmldhepkaaN10
namespace Go.Proofs.Ytnipfgmldhepkaa
set_option linter.unusedSimpArgs false
set_option linter.unusedVariables false
open Go.RowKit
theorem bigB_afn {f : FuncId} {args : List AV} {ds : List Int} {ok : Bool} (hf : FnOK f) (h : ∀ (w : World) (G : Gh) (vs : List Value), CVs G w args vs → (∀ b i, G.C b i → b < w.heap.size) → Calls Try.prog f vs.toArray w (GvBigB w ds ok)) :
    AFn f args [] (fun r os => r = .tup [.d (bigD ds), .d (.bool ok)] ∧ os = []) := by
  refine afn_of_calls hf fun w G vs h1 h2 => (h w G vs h1 h2).mono ?_
  rintro e w' ⟨a, n, c, rfl, hI, hb⟩
  refine ⟨hb, _, _, rfl, ⟨rfl, rfl⟩, [_, _], rfl, _, _, rfl, big_cv hI (fun b i h1 h2 => .inr ⟨h1, h2⟩), _, _, rfl, cvBool.2 rfl, rfl⟩
theorem leaf_afn {f : FuncId} {args : List AV} {v : Value} {r : AV} (hf : FnOK f) (hv : ∀ G w, CV G w r v) (h : ∀ (w : World) (G : Gh) (vs : List Value), CVs G w args vs → (∀ b i, G.C b i → b < w.heap.size) → Calls Try.prog f vs.toArray w (Leaves w v)) :
    AFn f args [] (fun r' os => r' = r ∧ os = []) := by
  refine afn_of_calls hf fun w G vs h1 h2 => (h w G vs h1 h2).mono ?_
  rintro e w' ⟨rfl, hb⟩
  exact ⟨hb, _, _, rfl, ⟨rfl, rfl⟩, hv _ _⟩
theorem cv_rat {G : Gh} {w : World} {x : RatD} {v : Value} (h : CV G w (.d (ratDV x)) v) : v = ratV x.num x.den ∧ I64 x.num ∧ I64 x.den := by
  obtain ⟨us, h1, rfl⟩ := cvAgg.1 h
  obtain ⟨rfl, h2⟩ := cxs_two.1 h1
  exact ⟨rfl, h2⟩
theorem implValidRatA (x : RatD) : AFn 44 [.d (ratDV x)] [] (fun r os => r = .d (.bool (ratOK x.num x.den)) ∧ os = []) := by
  refine leaf_afn (fnOK (by kernel_rfl)) (fun _ _ => cvBool.2 rfl) ?_
  rintro w G _ ⟨v, _, rfl, h1, rfl⟩ hC
  obtain ⟨rfl, h2, h3⟩ := cv_rat h1
  exact implValidRat _ _ w h2 h3
theorem specValidRatA (x : RatD) : AFn 42 [.d (ratDV x)] [] (fun r os => r = .d (.bool (ratOK x.num x.den)) ∧ os = []) := by
  refine leaf_afn (fnOK (by kernel_rfl)) (fun _ _ => cvBool.2 rfl) ?_
  rintro w G _ ⟨v, _, rfl, h1, rfl⟩ hC
  obtain ⟨rfl, h2, h3⟩ := cv_rat h1
  exact specValidRat _ _ w h2 h3
theorem cmpI_I64 (x y : Int) : I64 (cmpI x y) := by unfold cmpI I64; split <;> (try split) <;> omega
theorem cmpB_I64 (x y : List Int) : I64 (cmpB x y) := by
  have h : ∀ n, I64 (cmpTo x y n) := by
    intro n
    induction n with
    | zero => simp only [cmpTo]; unfold I64; omega
    | succ n ih => simp only [cmpTo]; split; exact ih; exact cmpI_I64 _ _
  unfold cmpB
  split
  · split
    · exact h _
    · exact cmpI_I64 _ _
  · unfold I64; omega
theorem implCmpBigA (x y : List Int) : AFn 35 [.d (bigD x), .d (bigD y)] [] (fun r os => r = .d (.int (cmpB x y)) ∧ os = []) := by
  refine leaf_afn (v := .int .i64 (cmpB x y)) (fnOK (by kernel_rfl)) (fun _ _ => cvInt.2 ⟨rfl, cmpB_I64 x y⟩) ?_
  rintro w G _ ⟨v, _, rfl, h1, v2, _, rfl, h2, rfl⟩ hC
  obtain ⟨a, n, c, rfl, hI⟩ := cv_big hC h1
  obtain ⟨a2, n2, c2, rfl, hJ⟩ := cv_big hC h2
  exact implCmpBig a n c x a2 n2 c2 y w hI (Nat.le_refl _) hJ (Nat.le_refl _)
theorem specCmpBigA (x y : List Int) : AFn 29 [.d (bigD x), .d (bigD y)] [] (fun r os => r = .d (.int (cmpB x y)) ∧ os = []) := by
  refine leaf_afn (v := .int .i64 (cmpB x y)) (fnOK (by kernel_rfl)) (fun _ _ => cvInt.2 ⟨rfl, cmpB_I64 x y⟩) ?_
  rintro w G _ ⟨v, _, rfl, h1, v2, _, rfl, h2, rfl⟩ hC
  obtain ⟨a, n, c, rfl, hI⟩ := cv_big hC h1
  obtain ⟨a2, n2, c2, rfl, hJ⟩ := cv_big hC h2
  exact specCmpBig a n c x a2 n2 c2 y w hI (Nat.le_refl _) hJ (Nat.le_refl _)
theorem implPowA (n k : Int) : AFn 25 [.d (.int n), .d (.int k)] [] (fun r os => r = .tup [.d (bigD (powF n k)), .d (.bool (powOK n k))] ∧ os = []) := by
  refine bigB_afn (fnOK (by kernel_rfl)) ?_
  rintro w G _ ⟨v, _, rfl, h1, v2, _, rfl, h2, rfl⟩ hC
  obtain ⟨rfl, i1⟩ := cvInt.1 h1
  obtain ⟨rfl, i2⟩ := cvInt.1 h2
  exact implPow n k w i1 i2
theorem specPowA (n k : Int) : AFn 22 [.d (.int n), .d (.int k)] [] (fun r os => r = .tup [.d (bigD (powF n k)), .d (.bool (powOK n k))] ∧ os = []) := by
  refine bigB_afn (fnOK (by kernel_rfl)) ?_
  rintro w G _ ⟨v, _, rfl, h1, v2, _, rfl, h2, rfl⟩ hC
  obtain ⟨rfl, i1⟩ := cvInt.1 h1
  obtain ⟨rfl, i2⟩ := cvInt.1 h2
  exact specPow n k w i1 i2
theorem implMulA (x y : List Int) : AFn 26 [.d (bigD x), .d (bigD y)] [] (fun r os => r = .tup [.d (bigD (mulF x y)), .d (.bool (mulOK x y))] ∧ os = []) := by
  refine bigB_afn (fnOK (by kernel_rfl)) ?_
  rintro w G _ ⟨v, _, rfl, h1, v2, _, rfl, h2, rfl⟩ hC
  obtain ⟨a, n, c, rfl, hI⟩ := cv_big hC h1
  obtain ⟨a2, n2, c2, rfl, hJ⟩ := cv_big hC h2
  exact implMul a n c x a2 n2 c2 y w hI (Nat.le_refl _) hJ (Nat.le_refl _)
theorem implProdA (x y : List Int) : AFn 8 [.d (intsD x), .d (intsD y)] [] (fun r os => r = .tup [.d (bigD (prodF x y)), .d (.bool (prodOK x y))] ∧ os = []) := by
  refine bigB_afn (fnOK (by kernel_rfl)) ?_
  rintro w G _ ⟨v, _, rfl, h1, v2, _, rfl, h2, rfl⟩ hC
  obtain ⟨a, n, c, rfl, hI⟩ := cv_ints hC h1
  obtain ⟨a2, n2, c2, rfl, hJ⟩ := cv_ints hC h2
  exact implProd a n c x a2 n2 c2 y w hI (Nat.le_refl _) hJ (Nat.le_refl _)
theorem specProdA (x y : List Int) : AFn 6 [.d (intsD x), .d (intsD y)] [] (fun r os => r = .tup [.d (bigD (prodF x y)), .d (.bool (prodOK x y))] ∧ os = []) := by
  refine bigB_afn (fnOK (by kernel_rfl)) ?_
  rintro w G _ ⟨v, _, rfl, h1, v2, _, rfl, h2, rfl⟩ hC
  obtain ⟨a, n, c, rfl, hI⟩ := cv_ints hC h1
  obtain ⟨a2, n2, c2, rfl, hJ⟩ := cv_ints hC h2
  exact specProd a n c x a2 n2 c2 y w hI (Nat.le_refl _) hJ (Nat.le_refl _)
theorem crD_bd (l : List Int) (n : Nat) : ∀ d ∈ crD l n, 0 ≤ d ∧ d ≤ 9 := by
  induction n with
  | zero => intro d hd; simp [crD] at hd
  | succ n ih =>
    intro d hd
    simp only [crD, List.mem_append, List.mem_singleton] at hd
    rcases hd with hd | rfl
    · exact ih d hd
    · omega
theorem trimN_last (ds : List Int) (n : Nat) : trimN ds n = 0 ∨ ix ds (trimN ds n - 1) ≠ 0 := by
  induction n with
  | zero => left; rfl
  | succ n ih =>
    simp only [trimN]
    split
    · exact ih
    · right; simpa using by assumption
theorem crF_big (l : List Int) : bigOK (crF l) = true := by
  unfold crF
  split
  · rename_i h
    have h1 : trimN (crD l (crN l)) (crN l) ≤ 60 := by simpa [crOK] using h
    have hl : (crRaw l).length = trimN (crD l (crN l)) (crN l) := by
      have := trimN_le (crD l (crN l)) (crN l)
      simp [crRaw, crD_len]; omega
    simp only [bigOK, Bool.and_eq_true, decide_eq_true_eq]
    refine ⟨fun d hd => crD_bd l _ d (List.mem_of_mem_take hd), by omega, ?_⟩
    rw [hl]
    rcases trimN_last (crD l (crN l)) (crN l) with h2 | h2
    · exact .inl h2
    · by_cases h3 : trimN (crD l (crN l)) (crN l) = 0
      · exact .inl h3
      · right
        have : ix (crRaw l) (trimN (crD l (crN l)) (crN l) - 1) = ix (crD l (crN l)) (trimN (crD l (crN l)) (crN l) - 1) := by
          simp only [ix, crRaw, List.getD_eq_getElem?_getD]
          rw [List.getElem?_take_of_lt (by omega)]
        rw [this]; exact h2
  · rfl
theorem mulF_big {a b : List Int} : bigOK (mulF a b) = true := by
  unfold mulF; split
  · exact crF_big _
  · rfl
theorem digI_one : digI 1 = [1] := by
  unfold digI
  rw [show (1 : Int).toNat = 1 from rfl, digN_pos (by omega), show 1 / 10 = 0 from rfl, digN_zero]; rfl
theorem big_one : bigOK [1] = true := by decide
theorem prodSt_big (s e : List Int) (i : Nat) : bigOK (prodSt s e i).1 = true := by
  cases i with
  | zero => simp only [prodSt]; rw [digI_one]; exact big_one
  | succ i =>
    simp only [prodSt]
    split
    · exact mulF_big
    · rfl
theorem prodF_big (s e : List Int) : bigOK (prodF s e) = true := by
  unfold prodF; split
  · exact prodSt_big _ _ _
  · rfl
theorem powSt_one (k : Nat) : powSt [1] k = ([1], true) := by
  induction k with
  | zero => simp only [powSt]; rw [digI_one]
  | succ k ih =>
    have h := mulF_one big_one
    simp only [powSt, ih]
    rw [if_pos ⟨trivial, h.1⟩, h.2]
theorem pow_one {d : Int} (h : 0 ≤ d ∧ d ≤ 100) : powOK 1 d = true ∧ powF 1 d = [1] := by
  have e := powOK_yes (n := 1) (K := d.toNat) (ds := [1]) ⟨by omega, by omega⟩ (by rw [digI_one]; exact powSt_one _)
  rwa [show (d.toNat : Int) = d by omega] at e
theorem prodOK_neg {s e : List Int} {k : Nat} (hk : k < s.length) (h : ix s k < 0) : prodOK s e = false := by
  have h1 : (prodSt s e (k + 1)).2 = false := by
    simp only [prodSt]
    rw [if_neg]
    rintro ⟨_, h2, _⟩
    rw [powOK_no (by omega)] at h2; cases h2
  have := prodSt_no h1 (show k + 1 ≤ s.length by omega)
  simp [prodOK, this]
/-- n rows are within the bound of a cover -/
noncomputable def agmB (sz : List Int) (w : List RatD) (n : Int) : Bool := decide (0 < scD w) && (prodOK sz (scF w) && (powOK n (scD w : Nat) && decide (cmpB (powF n (scD w : Nat)) (prodF sz (scF w)) ≤ 0)))
theorem agmB_n {sz : List Int} {w : List RatD} {n : Int} (h : n < 0) : agmB sz w n = false := by
  unfold agmB; rw [powOK_no (show ¬ (0 ≤ n ∧ _) from fun h2 => by omega)]; simp
theorem agmB_d {sz : List Int} {w : List RatD} {n : Int} (h : scD w < 1) : agmB sz w n = false := by
  unfold agmB; rw [show scD w = 0 by omega]; simp
theorem agmB_e {sz : List Int} {w : List RatD} {n : Int} (h : 100 < scD w) : agmB sz w n = false := by
  unfold agmB; rw [powOK_no (n := n) (k := (scD w : Nat)) (by omega)]; simp
theorem agmB_s {sz : List Int} {w : List RatD} {n : Int} {k : Nat} (hk : k < sz.length) (h : ix sz k < 0) : agmB sz w n = false := by
  unfold agmB; rw [prodOK_neg hk h]; simp
theorem agmB_b {sz : List Int} {w : List RatD} {n : Int} (h : powOK n (scD w : Nat) = false) : agmB sz w n = false := by unfold agmB; rw [h]; simp
theorem agmB_p {sz : List Int} {w : List RatD} {n : Int} (h : prodOK sz (scF w) = false) : agmB sz w n = false := by unfold agmB; rw [h]; simp
theorem agmB_y {sz : List Int} {w : List RatD} {n : Int} (h0 : 0 < scD w) (h1 : powOK n (scD w : Nat) = true) (h2 : prodOK sz (scF w) = true) : agmB sz w n = decide (cmpB (powF n (scD w : Nat)) (prodF sz (scF w)) ≤ 0) := by
  unfold agmB; rw [h1, h2, decide_eq_true h0]; simp
def multL (n : Int) (l : List Int) : List Int := l.map (· * n)
theorem multL_len (n : Int) (l : List Int) : (multL n l).length = l.length := by simp [multL]
open Classical in
/-- the comparison of the bounds of two covers -/
noncomputable def agmC (sz : List Int) (a b : List RatD) : Int × Bool :=
  if scD a = 0 ∨ scD b = 0 ∨ a.length ≠ sz.length ∨ b.length ≠ sz.length then (0, false) else
    if prodOK sz (multL (scD b : Nat) (scF a)) = true ∧ prodOK sz (multL (scD a : Nat) (scF b)) = true then (cmpB (prodF sz (multL (scD b : Nat) (scF a))) (prodF sz (multL (scD a : Nat) (scF b))), true) else (0, false)
end Go.Proofs.Ytnipfgmldhepkaa
