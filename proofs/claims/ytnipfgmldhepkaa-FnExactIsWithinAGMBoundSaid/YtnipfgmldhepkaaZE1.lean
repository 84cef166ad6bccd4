/- The contracts of big numbers and rationals on abstract values. -/
import Derived.Test.YtnipfgmldhepkaaZ21
import Derived.Test.YtnipfgmldhepkaaZD
import Derived.Test.YtnipfgmldhepkaaN6
import Derived.Test.YtnipfgmldhepkaaN8
import Derived.Test.YtnipfgmldhepkaaR2
namespace Go.Proofs.Ytnipfgmldhepkaa
set_option linter.unusedSimpArgs false
set_option linter.unusedVariables false
open Go.RowKit
theorem bigB_afn {f : FuncId} {args : List AV} {ds : List Int} {ok : Bool} (hf : FnOK f) (h : ∀ (w : World) (G : Gh) (vs : List Value), CVs G w args vs → (∀ b i, G.C b i → b < w.heap.size) → Calls Try.prog f vs.toArray w (GvBigB w ds ok)) :
    AFn f args [] (fun r os => r = .tup [.d (bigD ds), .d (.bool ok)] ∧ os = []) := by
  refine afn_of_calls hf fun w G vs h1 h2 => (h w G vs h1 h2).mono ?_
  rintro e w' ⟨a, n, c, rfl, hI, hb⟩
  refine ⟨hb, _, _, rfl, ⟨rfl, rfl⟩, [_, _], rfl, _, _, rfl, big_cv hI (fun b i h1 h2 => .inr ⟨h1, h2⟩), _, _, rfl, cvBool.2 rfl, rfl⟩
theorem leaf_afn {f : FuncId} {args : List AV} {v : Value} {r : AV} (hf : FnOK f) (hv : ∀ G w, CV G w r v) (h : ∀ (w : World) (G : Gh) (vs : List Value), CVs G w args vs → (∀ b i, G.C b i → b < w.heap.size) → Calls Try.prog f vs.toArray w (Leaves w v)) :
    AFn f args [] (fun r' os => r' = r ∧ os = []) := by
  refine afn_of_calls hf fun w G vs h1 h2 => (h w G vs h1 h2).mono ?_
  rintro e w' ⟨rfl, hb⟩
  exact ⟨hb, _, _, rfl, ⟨rfl, rfl⟩, hv _ _⟩
theorem cv_rat {G : Gh} {w : World} {x : RatD} {v : Value} (h : CV G w (.d (ratDV x)) v) : v = ratV x.num x.den ∧ I64 x.num ∧ I64 x.den := by
  obtain ⟨us, h1, rfl⟩ := cvAgg.1 h
  obtain ⟨rfl, h2⟩ := cxs_two.1 h1
  exact ⟨rfl, h2⟩
theorem implValidRatA (x : RatD) : AFn 44 [.d (ratDV x)] [] (fun r os => r = .d (.bool (ratOK x.num x.den)) ∧ os = []) := by
  refine leaf_afn (fnOK (by kernel_rfl)) (fun _ _ => cvBool.2 rfl) ?_
  rintro w G _ ⟨v, _, rfl, h1, rfl⟩ hC
  obtain ⟨rfl, h2, h3⟩ := cv_rat h1
  exact implValidRat _ _ w h2 h3
theorem specValidRatA (x : RatD) : AFn 42 [.d (ratDV x)] [] (fun r os => r = .d (.bool (ratOK x.num x.den)) ∧ os = []) := by
  refine leaf_afn (fnOK (by kernel_rfl)) (fun _ _ => cvBool.2 rfl) ?_
  rintro w G _ ⟨v, _, rfl, h1, rfl⟩ hC
  obtain ⟨rfl, h2, h3⟩ := cv_rat h1
  exact specValidRat _ _ w h2 h3
theorem cmpI_I64 (x y : Int) : I64 (cmpI x y) := by unfold cmpI I64; split <;> (try split) <;> omega
theorem cmpB_I64 (x y : List Int) : I64 (cmpB x y) := by
  have h : ∀ n, I64 (cmpTo x y n) := by
    intro n
    induction n with
    | zero => simp only [cmpTo]; unfold I64; omega
    | succ n ih => simp only [cmpTo]; split; exact ih; exact cmpI_I64 _ _
  unfold cmpB
  split
  · split
    · exact h _
    · exact cmpI_I64 _ _
  · unfold I64; omega
theorem implCmpBigA (x y : List Int) : AFn 35 [.d (bigD x), .d (bigD y)] [] (fun r os => r = .d (.int (cmpB x y)) ∧ os = []) := by
  refine leaf_afn (v := .int .i64 (cmpB x y)) (fnOK (by kernel_rfl)) (fun _ _ => cvInt.2 ⟨rfl, cmpB_I64 x y⟩) ?_
  rintro w G _ ⟨v, _, rfl, h1, v2, _, rfl, h2, rfl⟩ hC
  obtain ⟨a, n, c, rfl, hI⟩ := cv_big hC h1
  obtain ⟨a2, n2, c2, rfl, hJ⟩ := cv_big hC h2
  exact implCmpBig a n c x a2 n2 c2 y w hI (Nat.le_refl _) hJ (Nat.le_refl _)
theorem specCmpBigA (x y : List Int) : AFn 29 [.d (bigD x), .d (bigD y)] [] (fun r os => r = .d (.int (cmpB x y)) ∧ os = []) := by
  refine leaf_afn (v := .int .i64 (cmpB x y)) (fnOK (by kernel_rfl)) (fun _ _ => cvInt.2 ⟨rfl, cmpB_I64 x y⟩) ?_
  rintro w G _ ⟨v, _, rfl, h1, v2, _, rfl, h2, rfl⟩ hC
  obtain ⟨a, n, c, rfl, hI⟩ := cv_big hC h1
  obtain ⟨a2, n2, c2, rfl, hJ⟩ := cv_big hC h2
  exact specCmpBig a n c x a2 n2 c2 y w hI (Nat.le_refl _) hJ (Nat.le_refl _)
theorem implPowA (n k : Int) : AFn 25 [.d (.int n), .d (.int k)] [] (fun r os => r = .tup [.d (bigD (powF n k)), .d (.bool (powOK n k))] ∧ os = []) := by
  refine bigB_afn (fnOK (by kernel_rfl)) ?_
  rintro w G _ ⟨v, _, rfl, h1, v2, _, rfl, h2, rfl⟩ hC
  obtain ⟨rfl, i1⟩ := cvInt.1 h1
  obtain ⟨rfl, i2⟩ := cvInt.1 h2
  exact implPow n k w i1 i2
theorem specPowA (n k : Int) : AFn 22 [.d (.int n), .d (.int k)] [] (fun r os => r = .tup [.d (bigD (powF n k)), .d (.bool (powOK n k))] ∧ os = []) := by
  refine bigB_afn (fnOK (by kernel_rfl)) ?_
  rintro w G _ ⟨v, _, rfl, h1, v2, _, rfl, h2, rfl⟩ hC
  obtain ⟨rfl, i1⟩ := cvInt.1 h1
  obtain ⟨rfl, i2⟩ := cvInt.1 h2
  exact specPow n k w i1 i2
theorem implMulA (x y : List Int) : AFn 26 [.d (bigD x), .d (bigD y)] [] (fun r os => r = .tup [.d (bigD (mulF x y)), .d (.bool (mulOK x y))] ∧ os = []) := by
  refine bigB_afn (fnOK (by kernel_rfl)) ?_
  rintro w G _ ⟨v, _, rfl, h1, v2, _, rfl, h2, rfl⟩ hC
  obtain ⟨a, n, c, rfl, hI⟩ := cv_big hC h1
  obtain ⟨a2, n2, c2, rfl, hJ⟩ := cv_big hC h2
  exact implMul a n c x a2 n2 c2 y w hI (Nat.le_refl _) hJ (Nat.le_refl _)
theorem implProdA (x y : List Int) : AFn 8 [.d (intsD x), .d (intsD y)] [] (fun r os => r = .tup [.d (bigD (prodF x y)), .d (.bool (prodOK x y))] ∧ os = []) := by
  refine bigB_afn (fnOK (by kernel_rfl)) ?_
  rintro w G _ ⟨v, _, rfl, h1, v2, _, rfl, h2, rfl⟩ hC
  obtain ⟨a, n, c, rfl, hI⟩ := cv_ints hC h1
  obtain ⟨a2, n2, c2, rfl, hJ⟩ := cv_ints hC h2
  exact implProd a n c x a2 n2 c2 y w hI (Nat.le_refl _) hJ (Nat.le_refl _)
theorem specProdA (x y : List Int) : AFn 6 [.d (intsD x), .d (intsD y)] [] (fun r os => r = .tup [.d (bigD (prodF x y)), .d (.bool (prodOK x y))] ∧ os = []) := by
  refine bigB_afn (fnOK (by kernel_rfl)) ?_
  rintro w G _ ⟨v, _, rfl, h1, v2, _, rfl, h2, rfl⟩ hC
  obtain ⟨a, n, c, rfl, hI⟩ := cv_ints hC h1
  obtain ⟨a2, n2, c2, rfl, hJ⟩ := cv_ints hC h2
  exact specProd a n c x a2 n2 c2 y w hI (Nat.le_refl _) hJ (Nat.le_refl _)
end Go.Proofs.Ytnipfgmldhepkaa
