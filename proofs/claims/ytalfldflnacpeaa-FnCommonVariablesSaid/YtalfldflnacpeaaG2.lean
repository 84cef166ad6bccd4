/- Queries as data; what is known of the functions on queries; neighbours. -/
import Derived.Test.YtalfldflnacpeaaG1
import Derived.Test.YtalfldflnacpeaaB7
import Derived.Test.YtalfldflnacpeaaA2
namespace Go.Proofs.Ytalfldflnacpeaa
set_option linter.unusedSimpArgs false
set_option linter.unusedVariables false
open Go.RowKit
abbrev atomDV (x : AtomD) : DV := .agg [.str x.nm, intsD x.vs]
abbrev queryD (nv : Int) (xs : List AtomD) (us : List Int) : DV := .agg [.int nv, .sl 2 (xs.map atomDV), intsD us]
def NmOK (xs : List AtomD) : Prop := ∀ x ∈ xs, x.nm.size ≤ 9223372036854775807
theorem cv_atom {G : Gh} {w : World} {x : AtomD} {v : Value} (hC : ∀ b i, G.C b i → b < w.heap.size) (h : CV G w (.d (atomDV x)) v) : ∃ a n c, v = atomV x.nm a n c ∧ IntsA false 0 w.heap.size w a n c x.vs := by
  obtain ⟨us, ⟨u1, r1, rfl, rfl, u2, r2, rfl, h2, rfl⟩, rfl⟩ := cvAgg.1 h
  obtain ⟨a, n, c, rfl, hI⟩ := cx_ints hC h2
  exact ⟨a, n, c, rfl, hI⟩
theorem cx_atoms {C : Nat → Nat → Prop} {w : World} {xs : List AtomD} {us : List Value} (hC : ∀ b i, C b i → b < w.heap.size) (hn : NmOK xs) (h : CX C w (.sl 2 (xs.map atomDV)) us) : ∃ a n c, us = [.slice a n c] ∧ AtomsA false 0 w.heap.size w a n c xs := by
  obtain ⟨a, n, c, vs, rfl, h2, h3, h4⟩ := h
  simp only [List.length_map] at h2
  have hlen := h3.len
  refine ⟨a, n, c, rfl, h2, h4.2.1, h4.2.2.1, fun hn0 => ?_, h4.2.2.2.1⟩
  obtain ⟨b, off, ha, hc⟩ := h4.2.2.2.2.2 hn0
  have hat : ∀ i (hi : i < xs.length), ∃ ra rn rc, vs[i * 2]? = some (.string xs[i].nm) ∧ vs[i * 2 + 1]? = some (.slice ra rn rc) ∧ IntsA false 0 w.heap.size w ra rn rc xs[i].vs := fun i hi => by
    have := CXk.at h3 i (atomDV xs[i]) (by rw [List.getElem?_map, List.getElem?_eq_getElem hi]; rfl)
    obtain ⟨u1, r1, e1, rfl, u2, r2, rfl, h6, rfl⟩ := this
    obtain ⟨ra, rn, rc, rfl, hI⟩ := cx_ints hC h6
    refine ⟨ra, rn, rc, ?_, ?_, hI⟩
    · have := congrArg (·[0]?) e1
      simpa [List.getElem?_take, List.getElem?_drop] using this
    · have := congrArg (·[1]?) e1
      simpa [List.getElem?_take, List.getElem?_drop] using this
  obtain ⟨_, _, _, g0, _⟩ := hat 0 (by omega)
  refine ⟨b, off, ha, Nat.zero_le _, hC b _ (hc _ _ g0).1, fun i hi => ?_⟩
  obtain ⟨ra, rn, rc, g1, g2, hI⟩ := hat i (by omega)
  refine ⟨[.string xs[i].nm, .slice ra rn rc], xs[i], rfl, List.getElem?_eq_getElem (by omega), ⟨ra, rn, rc, rfl, hn _ (List.getElem_mem _), hI⟩, fun j hj => ?_⟩
  rcases (by omega : j = 0 ∨ j = 1) with rfl | rfl
  · exact ⟨by simpa using (hc _ _ g1).2, fun h => (nomatch h)⟩
  · exact ⟨by simpa [Nat.add_assoc] using (hc _ _ g2).2, fun h => (nomatch h)⟩
theorem cv_query {G : Gh} {w : World} {nv : Int} {xs : List AtomD} {us : List Int} {v : Value} (hC : ∀ b i, G.C b i → b < w.heap.size) (hn : NmOK xs) (h : CV G w (.d (queryD nv xs us)) v) : ∃ a n c ua un uc, v = queryV nv a n c ua un uc ∧ QueryA false 0 w.heap.size w nv a n c xs ua un uc us := by
  obtain ⟨cs, ⟨u1, r1, rfl, ⟨rfl, h1⟩, u2, r2, rfl, h2, u3, r3, rfl, h3, rfl⟩, rfl⟩ := cvAgg.1 h
  obtain ⟨a, n, c, rfl, hA⟩ := cx_atoms hC hn h2
  obtain ⟨ua, un, uc, rfl, hU⟩ := cx_ints hC h3
  exact ⟨a, n, c, ua, un, uc, rfl, h1, hA, hU⟩
theorem own_afn {f : FuncId} {args : List AV} {xs : List Int} (hf : FnOK f) (h : ∀ (w : World) (G : Gh) (vs : List Value), CVs G w args vs → (∀ b i, G.C b i → b < w.heap.size) → Calls Try.prog f vs.toArray w (GivesOwn w xs)) :
    AFn f args [] (fun r os => r = .d (intsD xs) ∧ os = []) := by
  refine afn_of_calls hf fun w G vs h1 h2 => (h w G vs h1 h2).mono ?_
  rintro e w' ⟨a, n, c, rfl, hI, hb⟩
  exact ⟨hb, _, _, rfl, ⟨rfl, rfl⟩, cvSl.2 (own_cx hI.ints (fun b i h1 h2 h3 => .inr ⟨h1, h2, h3⟩))⟩
section
variable (nv : Int) (xs : List AtomD) (us : List Int) (hn : NmOK xs)
include hn
theorem specValidQA : AFn 29 [.d (queryD nv xs us)] [] (fun r os => r = .d (.bool (qOK nv xs us)) ∧ os = []) := by
  refine leaf_afn (fnOK (by kernel_rfl)) (fun _ _ => cvBool.2 rfl) ?_
  rintro w G _ ⟨v, _, rfl, h1, rfl⟩ hC
  obtain ⟨a, n, c, ua, un, uc, rfl, hI⟩ := cv_query hC hn h1
  exact specValidQ nv a n c xs ua un uc us w hI (Nat.le_refl _)
theorem implDegA (v : Int) : AFn 12 [.d (queryD nv xs us), .d (.int v)] [] (fun r os => r = .d (.int (degF nv xs us v : Nat)) ∧ os = []) := by
  refine leaf_afn (fnOK (by kernel_rfl)) (fun _ _ => cvInt.2 ⟨rfl, by have := degF_le nv xs us v; unfold I64; omega⟩) ?_
  rintro w G _ ⟨v1, _, rfl, h1, v2, _, rfl, h2, rfl⟩ hC
  obtain ⟨a, n, c, ua, un, uc, rfl, hI⟩ := cv_query hC hn h1
  obtain ⟨rfl, _⟩ := cvInt.1 h2
  exact implDeg nv a n c xs ua un uc us v w hI (Nat.le_refl _)
end
theorem implHasA (x : AtomD) (v : Int) : AFn 26 [.d (atomDV x), .d (.int v)] [] (fun r os => r = .d (.bool (occ x.vs v)) ∧ os = []) := by
  refine leaf_afn (fnOK (by kernel_rfl)) (fun _ _ => cvBool.2 rfl) ?_
  rintro w G _ ⟨v1, _, rfl, h1, v2, _, rfl, h2, rfl⟩ hC
  obtain ⟨a, n, c, rfl, hI⟩ := cv_atom hC h1
  obtain ⟨rfl, _⟩ := cvInt.1 h2
  exact implHasVar x.nm a n c x.vs v w hI (Nat.le_refl _)
theorem specHasA (x : AtomD) (v : Int) : AFn 49 [.d (atomDV x), .d (.int v)] [] (fun r os => r = .d (.bool (occ x.vs v)) ∧ os = []) := by
  refine leaf_afn (fnOK (by kernel_rfl)) (fun _ _ => cvBool.2 rfl) ?_
  rintro w G _ ⟨v1, _, rfl, h1, v2, _, rfl, h2, rfl⟩ hC
  obtain ⟨a, n, c, rfl, hI⟩ := cv_atom hC h1
  obtain ⟨rfl, _⟩ := cvInt.1 h2
  exact specHasVar x.nm a n c x.vs v w hI (Nat.le_refl _)
theorem implVarsA (x : AtomD) : AFn 16 [.d (atomDV x)] [] (fun r os => r = .d (intsD (avTo x.vs 5)) ∧ os = []) := by
  refine own_afn (fnOK (by kernel_rfl)) ?_
  rintro w G _ ⟨v1, _, rfl, h1, rfl⟩ hC
  obtain ⟨a, n, c, rfl, hI⟩ := cv_atom hC h1
  exact implAtomVars x.nm a n c x.vs w hI (Nat.le_refl _)
end Go.Proofs.Ytalfldflnacpeaa
