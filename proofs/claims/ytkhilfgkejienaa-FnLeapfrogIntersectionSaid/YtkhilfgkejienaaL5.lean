/- The functions on sorted lists, as contracts on abstract values. -/
import Derived.Test.YtkhilfgkejienaaLV
import Derived.Test.YtkhilfgkejienaaZD
import Derived.Test.YtkhilfgkejienaaW7
import Derived.Test.YtkhilfgkejienaaW2
import Derived.Test.YtkhilfgkejienaaW4
namespace Go.Proofs.Ytkhilfgkejienaa
set_option linter.unusedSimpArgs false
set_option linter.unusedVariables false
open Go.RowKit
abbrev rowsD (xss : List (List Int)) : DV := .sl 1 (xss.map intsD)
theorem cv_rows {G : Gh} {w : World} {xss : List (List Int)} {v : Value} (hC : ∀ b i, G.C b i → b < w.heap.size) (h : CV G w (.d (rowsD xss)) v) : ∃ a n c, v = .slice a n c ∧ RowsA false 0 w.heap.size w a n c xss := by
  obtain ⟨a, n, c, vs, e, h2, h3, h4, h5, h6, h7, h8, h9⟩ := cvSl.1 h
  simp only [List.cons.injEq, and_true] at e
  subst e
  simp only [List.length_map] at h2
  obtain ⟨g1, g2⟩ := CXk.singles.1 h3
  refine ⟨a, n, c, rfl, h2, h5, h6, fun hn => ?_, h7⟩
  obtain ⟨b, off, ha, hc⟩ := h9 hn
  have hat : ∀ i (hi : i < xss.length), ∃ u, vs[i]? = some u ∧ ∃ ra rn rc, u = .slice ra rn rc ∧ IntsA false 0 w.heap.size w ra rn rc xss[i] := fun i hi => by
    obtain ⟨u, hu, hx⟩ := g2 i (intsD xss[i]) (by rw [List.getElem?_map, List.getElem?_eq_getElem hi]; rfl)
    obtain ⟨ra, rn, rc, e, hI⟩ := cx_ints hC hx
    simp only [List.cons.injEq, and_true] at e
    exact ⟨u, hu, ra, rn, rc, e, hI⟩
  obtain ⟨u0, hu0, _⟩ := hat 0 (by omega)
  refine ⟨b, off, ha, Nat.zero_le _, hC b _ (hc 0 u0 hu0).1, fun i hi => ?_⟩
  obtain ⟨u, hu, ra, rn, rc, rfl, hI⟩ := hat i (by omega)
  refine ⟨[.slice ra rn rc], xss[i], rfl, List.getElem?_eq_getElem (by omega), ⟨ra, rn, rc, rfl, hI⟩, fun j hj => ?_⟩
  obtain rfl : j = 0 := by omega
  exact ⟨by simpa using (hc i _ hu).2, fun h => (nomatch h)⟩
theorem own_afn {f : FuncId} {args : List AV} {xs : List Int} (hf : FnOK f) (h : ∀ (w : World) (G : Gh) (vs : List Value), CVs G w args vs → (∀ b i, G.C b i → b < w.heap.size) → Calls Try.prog f vs.toArray w (GivesOwn w xs)) :
    AFn f args [] (fun r os => r = .d (intsD xs) ∧ os = []) := by
  refine afn_of_calls hf fun w G vs h1 h2 => (h w G vs h1 h2).mono ?_
  rintro e w' ⟨a, n, c, rfl, hI, hb⟩
  exact ⟨hb, _, _, rfl, ⟨rfl, rfl⟩, cvSl.2 (ints_cx hI.ints (fun b i h1 h2 => .inr ⟨h1, h2⟩))⟩
theorem own2_afn {f : FuncId} {args : List AV} {xs : List Int} {m : Int} (hf : FnOK f) (hm : I64 m) (h : ∀ (w : World) (G : Gh) (vs : List Value), CVs G w args vs → (∀ b i, G.C b i → b < w.heap.size) → Calls Try.prog f vs.toArray w (GivesOwn2 w xs m)) :
    AFn f args [] (fun r os => r = .tup [.d (intsD xs), .d (.int m)] ∧ os = []) := by
  refine afn_of_calls hf fun w G vs h1 h2 => (h w G vs h1 h2).mono ?_
  rintro e w' ⟨a, n, c, rfl, hI, hb⟩
  refine ⟨hb, _, _, rfl, ⟨rfl, rfl⟩, [_, _], rfl, _, _, rfl, cvSl.2 (ints_cx hI.ints (fun b i h1 h2 => .inr ⟨h1, h2⟩)), _, _, rfl, cvInt.2 ⟨rfl, hm⟩, rfl⟩
/-- small rows -/
def SmallR (xss : List (List Int)) : Prop := xss.length ≤ 1000 ∧ ∀ i, (rx xss i).length ≤ 1000
theorem leap_i64 {xss : List (List Int)} (h : SmallR xss) : I64 ((leapF xss).2 : Int) := by
  obtain ⟨_, _, _, h4⟩ := leapF_good xss
  have hs : shTo xss xss.length ≤ 1000 := by
    by_cases h0 : 0 < xss.length
    · obtain ⟨i, _, e⟩ := shTo_at (xss := xss) xss.length h0
      rw [← e]; exact h.2 i
    · rw [show xss.length = 0 by omega]; simp [shTo]
  have h5 : xss.length * (shTo xss xss.length + 1) ≤ 1000 * 1001 := Nat.mul_le_mul h.1 (by omega)
  unfold I64; omega
theorem implLeapL (xss : List (List Int)) (h : SmallR xss) : AFn 6 [.d (rowsD xss)] [] (fun r os => r = .tup [.d (intsD (leapF xss).1), .d (.int (leapF xss).2)] ∧ os = []) := by
  refine own2_afn (fnOK (by kernel_rfl)) (leap_i64 h) ?_
  rintro w G _ ⟨v, _, rfl, h1, rfl⟩ hC
  obtain ⟨a, n, c, rfl, hI⟩ := cv_rows hC h1
  exact implLeapA a n c xss w hI (Nat.le_refl _) (fun i => by have := h.2 i; omega) (by have := hI.len; have := h.1; omega)
theorem specLeapL (xss : List (List Int)) (h : SmallR xss) : AFn 7 [.d (rowsD xss)] [] (fun r os => r = .tup [.d (intsD (leapF xss).1), .d (.int (leapF xss).2)] ∧ os = []) := by
  refine own2_afn (fnOK (by kernel_rfl)) (leap_i64 h) ?_
  rintro w G _ ⟨v, _, rfl, h1, rfl⟩ hC
  obtain ⟨a, n, c, rfl, hI⟩ := cv_rows hC h1
  exact specLeapA a n c xss w hI (Nat.le_refl _) (fun i => by have := h.2 i; omega) (by have := hI.len; have := h.1; omega)
theorem implInterL (xss : List (List Int)) (h : SmallR xss) : AFn 11 [.d (rowsD xss)] [] (fun r os => r = .d (intsD (interF xss)) ∧ os = []) := by
  refine own_afn (fnOK (by kernel_rfl)) ?_
  rintro w G _ ⟨v, _, rfl, h1, rfl⟩ hC
  obtain ⟨a, n, c, rfl, hI⟩ := cv_rows hC h1
  exact implInter a n c xss w hI (Nat.le_refl _) (fun i => by have := h.2 i; omega)
theorem sh_i64 {xss : List (List Int)} (h : SmallR xss) : shTo xss xss.length ≤ 1000 := by
  by_cases h0 : 0 < xss.length
  · obtain ⟨i, _, e⟩ := shTo_at (xss := xss) xss.length h0
    rw [← e]; exact h.2 i
  · rw [show xss.length = 0 by omega]; simp [shTo]
theorem implShortL (xss : List (List Int)) (h : SmallR xss) : AFn 13 [.d (rowsD xss)] [] (fun r os => r = .d (.int (shTo xss xss.length : Nat)) ∧ os = []) := by
  refine gives_afn (fnOK (by kernel_rfl)) (fun _ _ => cvInt.2 ⟨rfl, by have := sh_i64 h; unfold I64; omega⟩) ?_
  rintro w G _ ⟨v, _, rfl, h1, rfl⟩ hC
  obtain ⟨a, n, c, rfl, hI⟩ := cv_rows hC h1
  exact implShort a n c xss w hI
theorem specShortL (xss : List (List Int)) (h : SmallR xss) : AFn 14 [.d (rowsD xss)] [] (fun r os => r = .d (.int (shTo xss xss.length : Nat)) ∧ os = []) := by
  refine gives_afn (fnOK (by kernel_rfl)) (fun _ _ => cvInt.2 ⟨rfl, by have := sh_i64 h; unfold I64; omega⟩) ?_
  rintro w G _ ⟨v, _, rfl, h1, rfl⟩ hC
  obtain ⟨a, n, c, rfl, hI⟩ := cv_rows hC h1
  exact specShort a n c xss w hI
theorem seek_i64 {xs : List Int} (h : xs.length ≤ 1000) (f v : Int) : I64 (seekF xs f v) := by
  obtain ⟨m, e, hm, _⟩ := seekF_nat xs f v
  rw [e]; unfold I64; omega
theorem implSeekL (xs : List Int) (f v : Int) (h : xs.length ≤ 1000) : AFn 9 [.d (intsD xs), .d (.int f), .d (.int v)] [] (fun r os => r = .d (.int (seekF xs f v)) ∧ os = []) := by
  refine gives_afn (fnOK (by kernel_rfl)) (fun _ _ => cvInt.2 ⟨rfl, seek_i64 h f v⟩) ?_
  rintro w G _ ⟨u, _, rfl, h1, u2, _, rfl, h2, u3, _, rfl, h3, rfl⟩ hC
  obtain ⟨a, n, c, rfl, hI⟩ := cv_ints hC h1
  obtain ⟨rfl, _⟩ := cvInt.1 h2
  obtain ⟨rfl, _⟩ := cvInt.1 h3
  exact implSeek a n c xs f v w hI
theorem specSeekL (xs : List Int) (f v : Int) (h : xs.length ≤ 1000) : AFn 12 [.d (intsD xs), .d (.int f), .d (.int v)] [] (fun r os => r = .d (.int (seekF xs f v)) ∧ os = []) := by
  refine gives_afn (fnOK (by kernel_rfl)) (fun _ _ => cvInt.2 ⟨rfl, seek_i64 h f v⟩) ?_
  rintro w G _ ⟨u, _, rfl, h1, u2, _, rfl, h2, u3, _, rfl, h3, rfl⟩ hC
  obtain ⟨a, n, c, rfl, hI⟩ := cv_ints hC h1
  obtain ⟨rfl, _⟩ := cvInt.1 h2
  obtain ⟨rfl, _⟩ := cvInt.1 h3
  exact specSeek a n c xs f v w hI
theorem implAscLL (xs : List Int) : AFn 15 [.d (intsD xs)] [] (fun r os => r = .d (.bool (ascB xs)) ∧ os = []) := by
  refine gives_afn (fnOK (by kernel_rfl)) (fun _ _ => cvBool.2 rfl) ?_
  rintro w G _ ⟨u, _, rfl, h1, rfl⟩ hC
  obtain ⟨a, n, c, rfl, hI⟩ := cv_ints hC h1
  exact implAsc a n c xs w hI
end Go.Proofs.Ytkhilfgkejienaa
