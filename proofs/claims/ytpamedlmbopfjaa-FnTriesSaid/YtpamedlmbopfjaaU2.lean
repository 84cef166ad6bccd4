/- What is known of the functions on rows and relations, as contracts on abstract values. -/
import Derived.Test.YtpamedlmbopfjaaZD
import Derived.Test.YtpamedlmbopfjaaQ8
import Derived.Test.YtpamedlmbopfjaaU1
namespace Go.Proofs.Ytpamedlmbopfjaa
set_option linter.unusedSimpArgs false
set_option linter.unusedVariables false
open Go.RowKit
theorem cv_rows {G : Gh} {w : World} {xss : List (List Int)} {v : Value} (hC : ∀ b i, G.C b i → b < w.heap.size) (h : CV G w (.d (rowsD xss)) v) : ∃ a n c, v = .slice a n c ∧ RowsA false 0 w.heap.size w a n c xss := by
  obtain ⟨a, n, c, vs, e, h2, h3, h4, h5, h6, h7, h8, h9⟩ := cvSl.1 h
  simp only [List.cons.injEq, and_true] at e
  subst e
  simp only [List.length_map] at h2
  obtain ⟨g1, g2⟩ := CXk.singles.1 h3
  refine ⟨a, n, c, rfl, h2, h5, h6, fun hn => ?_, h7⟩
  obtain ⟨b, off, ha, hc⟩ := h9 hn
  have hat : ∀ i (hi : i < xss.length), ∃ u, vs[i]? = some u ∧ ∃ ra rn rc, u = .slice ra rn rc ∧ IntsA false 0 w.heap.size w ra rn rc xss[i] := fun i hi => by
    obtain ⟨u, hu, hx⟩ := g2 i (intsD xss[i]) (by rw [List.getElem?_map, List.getElem?_eq_getElem hi]; rfl)
    obtain ⟨ra, rn, rc, e, hI⟩ := cx_ints hC hx
    simp only [List.cons.injEq, and_true] at e
    exact ⟨u, hu, ra, rn, rc, e, hI⟩
  obtain ⟨u0, hu0, _⟩ := hat 0 (by omega)
  refine ⟨b, off, ha, Nat.zero_le _, hC b _ (hc 0 u0 hu0).1, fun i hi => ?_⟩
  obtain ⟨u, hu, ra, rn, rc, rfl, hI⟩ := hat i (by omega)
  refine ⟨[.slice ra rn rc], xss[i], rfl, List.getElem?_eq_getElem (by omega), ⟨ra, rn, rc, rfl, hI⟩, fun j hj => ?_⟩
  obtain rfl : j = 0 := by omega
  exact ⟨by simpa using (hc i _ hu).2, fun h => (nomatch h)⟩
theorem own_afn {f : FuncId} {args : List AV} {xs : List Int} (hf : FnOK f) (h : ∀ (w : World) (G : Gh) (vs : List Value), CVs G w args vs → (∀ b i, G.C b i → b < w.heap.size) → Calls Try.prog f vs.toArray w (GivesOwn w xs)) :
    AFn f args [] (fun r os => r = .d (intsD xs) ∧ os = []) := by
  refine afn_of_calls hf fun w G vs h1 h2 => (h w G vs h1 h2).mono ?_
  rintro e w' ⟨a, n, c, rfl, hI, hb⟩
  exact ⟨hb, _, _, rfl, ⟨rfl, rfl⟩, cvSl.2 (own_cx hI.ints (fun b i h1 h2 h3 => .inr ⟨h1, h2, h3⟩))⟩

theorem cv_rel {G : Gh} {w : World} {ar : Int} {xss : List (List Int)} {v : Value} (hC : ∀ b i, G.C b i → b < w.heap.size) (h : CV G w (.d (relD ar xss)) v) : ∃ a n c, v = trieV ar a n c ∧ I64 ar ∧ RowsA false 0 w.heap.size w a n c xss := by
  obtain ⟨us, ⟨u1, r1, rfl, ⟨rfl, har⟩, u2, r2, rfl, h2, rfl⟩, rfl⟩ := cvAgg.1 h
  obtain ⟨a, n, c, vs, rfl, h3⟩ := h2
  obtain ⟨a', n', c', e, hR⟩ := cv_rows hC (cvSl.2 ⟨a, n, c, vs, rfl, h3⟩)
  cases e
  exact ⟨a, n, c, rfl, har, hR⟩
theorem cmpR_i64 (a b : List Int) : I64 (cmpR a b) := by have := cmpR_rng a b; unfold I64; omega
theorem implCmpRA (xs ys : List Int) : AFn 23 [.d (intsD xs), .d (intsD ys)] [] (fun r os => r = .d (.int (cmpR xs ys)) ∧ os = []) := by
  refine gives_afn (fnOK (by kernel_rfl)) (fun _ _ => cvInt.2 ⟨rfl, cmpR_i64 xs ys⟩) ?_
  rintro w G _ ⟨v1, _, rfl, h1, v2, _, rfl, h2, rfl⟩ hC
  obtain ⟨a, n, c, rfl, hI⟩ := cv_ints hC h1
  obtain ⟨a', n', c', rfl, hJ⟩ := cv_ints hC h2
  exact implCmpR a a' n c n' c' xs ys w hI hJ
theorem implValsA (xs : List Int) : AFn 57 [.d (intsD xs)] [] (fun r os => r = .d (.bool (valB xs)) ∧ os = []) := by
  refine gives_afn (fnOK (by kernel_rfl)) (fun _ _ => cvBool.2 rfl) ?_
  rintro w G _ ⟨v1, _, rfl, h1, rfl⟩ hC
  obtain ⟨a, n, c, rfl, hI⟩ := cv_ints hC h1
  exact implVals a n c xs w hI
theorem implPermA (xs : List Int) : AFn 17 [.d (intsD xs)] [] (fun r os => r = .d (.bool (permB xs)) ∧ os = []) := by
  refine gives_afn (fnOK (by kernel_rfl)) (fun _ _ => cvBool.2 rfl) ?_
  rintro w G _ ⟨v1, _, rfl, h1, rfl⟩ hC
  obtain ⟨a, n, c, rfl, hI⟩ := cv_ints hC h1
  exact implPerm a n c xs w hI
theorem implValidRelA (ar : Int) (rows : List (List Int)) : AFn 36 [.d (relD ar rows)] [] (fun r os => r = .d (.bool (validR ar rows)) ∧ os = []) := by
  refine leaf_afn (fnOK (by kernel_rfl)) (fun _ _ => cvBool.2 rfl) ?_
  rintro w G _ ⟨v1, _, rfl, h1, rfl⟩ hC
  obtain ⟨a, n, c, rfl, har, hI⟩ := cv_rel hC h1
  exact implValidRel ar a n c rows w hI (Nat.le_refl _) har
theorem implValidTrieA (ar : Int) (rows : List (List Int)) : AFn 21 [.d (relD ar rows)] [] (fun r os => r = .d (.bool (validR ar rows)) ∧ os = []) := by
  refine leaf_afn (fnOK (by kernel_rfl)) (fun _ _ => cvBool.2 rfl) ?_
  rintro w G _ ⟨v1, _, rfl, h1, rfl⟩ hC
  obtain ⟨a, n, c, rfl, har, hI⟩ := cv_rel hC h1
  exact implValidTrie ar a n c rows w hI (Nat.le_refl _) har
theorem specCmpRA (xs ys : List Int) : AFn 25 [.d (intsD xs), .d (intsD ys)] [] (fun r os => r = .d (.int (cmpR xs ys)) ∧ os = []) := by
  refine gives_afn (fnOK (by kernel_rfl)) (fun _ _ => cvInt.2 ⟨rfl, cmpR_i64 xs ys⟩) ?_
  rintro w G _ ⟨v1, _, rfl, h1, v2, _, rfl, h2, rfl⟩ hC
  obtain ⟨a, n, c, rfl, hI⟩ := cv_ints hC h1
  obtain ⟨a', n', c', rfl, hJ⟩ := cv_ints hC h2
  exact specCmpR a a' n c n' c' xs ys w hI hJ
theorem specValsA (xs : List Int) : AFn 55 [.d (intsD xs)] [] (fun r os => r = .d (.bool (valB xs)) ∧ os = []) := by
  refine gives_afn (fnOK (by kernel_rfl)) (fun _ _ => cvBool.2 rfl) ?_
  rintro w G _ ⟨v1, _, rfl, h1, rfl⟩ hC
  obtain ⟨a, n, c, rfl, hI⟩ := cv_ints hC h1
  exact specVals a n c xs w hI
theorem specPermA (xs : List Int) : AFn 18 [.d (intsD xs)] [] (fun r os => r = .d (.bool (permB xs)) ∧ os = []) := by
  refine gives_afn (fnOK (by kernel_rfl)) (fun _ _ => cvBool.2 rfl) ?_
  rintro w G _ ⟨v1, _, rfl, h1, rfl⟩ hC
  obtain ⟨a, n, c, rfl, hI⟩ := cv_ints hC h1
  exact specPerm a n c xs w hI
theorem specValidRelA (ar : Int) (rows : List (List Int)) : AFn 40 [.d (relD ar rows)] [] (fun r os => r = .d (.bool (validR ar rows)) ∧ os = []) := by
  refine leaf_afn (fnOK (by kernel_rfl)) (fun _ _ => cvBool.2 rfl) ?_
  rintro w G _ ⟨v1, _, rfl, h1, rfl⟩ hC
  obtain ⟨a, n, c, rfl, har, hI⟩ := cv_rel hC h1
  exact specValidRel ar a n c rows w hI (Nat.le_refl _) har
theorem specValidTrieA (ar : Int) (rows : List (List Int)) : AFn 24 [.d (relD ar rows)] [] (fun r os => r = .d (.bool (validR ar rows)) ∧ os = []) := by
  refine leaf_afn (fnOK (by kernel_rfl)) (fun _ _ => cvBool.2 rfl) ?_
  rintro w G _ ⟨v1, _, rfl, h1, rfl⟩ hC
  obtain ⟨a, n, c, rfl, har, hI⟩ := cv_rel hC h1
  exact specValidTrie ar a n c rows w hI (Nat.le_refl _) har
end Go.Proofs.Ytpamedlmbopfjaa
