/- How an iterator over a trie that comes as an argument reads. -/
import Derived.Test.YthochdlbmaiclaaReadT
import Derived.Test.YthochdlbmaiclaaIt
namespace Go.Proofs.Ythochdlbmaiclaa
set_option linter.unusedSimpArgs false
set_option linter.unusedVariables false
open Go.ChangeShapes Go.WideShapes Go.ChangeAt Go.RowKit Go.Deep
theorem cellsIterT : Try.prog.cellsOf 39 = 5 := by kernel_rfl
theorem reads_iterC {H : Type} (enc : TypeId × Value → H) (W : World) (fuel : Nat) (cs : List Value) (x : DataW H × List MemPlace)
    (h : DataW.trod enc Try.prog W 0 (fun _ => true) true fuel 39 cs = some x) :
    ∃ ar a n c rows la ln lc lw ga gn gc gh pa pn pc ps, cs = [.int .i64 ar, .slice a n c, .slice la ln lc, .slice ga gn gc, .slice pa pn pc] ∧ IterA false 0 W.heap.size W ar a n c rows la ln lc lw ga gn gc gh pa pn pc ps := by
  obtain ⟨ys, m, _, _, hl, hlen, hf⟩ := DataW.trod_struct Try.underlying39 h
  rw [cellsIterT] at hl
  match ys, hlen with
  | [y0, y1, y2, y3], _ =>
    match cs, hl with
    | [c0, c1, c2, c3, c4], _ =>
      have h0 := hf 0 _ rfl
      have h1 := hf 1 _ rfl
      have h2 := hf 2 _ rfl
      have h3 := hf 3 _ rfl
      change DataW.trod enc Try.prog W 0 (fun _ => true) true m 24 (([c0, c1, c2, c3, c4].drop 0).take (Try.prog.cellsOf 24)) = some y0 at h0
      change DataW.trod enc Try.prog W 0 (fun _ => true) true m 27 (([c0, c1, c2, c3, c4].drop 2).take (Try.prog.cellsOf 27)) = some y1 at h1
      change DataW.trod enc Try.prog W 0 (fun _ => true) true m 27 (([c0, c1, c2, c3, c4].drop 3).take (Try.prog.cellsOf 27)) = some y2 at h2
      change DataW.trod enc Try.prog W 0 (fun _ => true) true m 27 (([c0, c1, c2, c3, c4].drop 4).take (Try.prog.cellsOf 27)) = some y3 at h3
      rw [cellsTrieT] at h0
      rw [cellsIntsT] at h1 h2 h3
      simp only [List.drop_zero, List.drop_succ_cons, List.take_succ_cons, List.take_zero] at h0 h1 h2 h3
      obtain ⟨ar, a, n, c, rows, e0, hR⟩ := reads_trieC enc W m _ _ h0
      obtain ⟨la, ln, lc, lw, e1, hR1⟩ := reads_intsA enc W m _ _ h1
      obtain ⟨ga, gn, gc, gh, e2, hR2⟩ := reads_intsA enc W m _ _ h2
      obtain ⟨pa, pn, pc, ps, e3, hR3⟩ := reads_intsA enc W m _ _ h3
      simp only [List.cons.injEq, and_true] at e0 e1 e2 e3
      obtain ⟨rfl, rfl⟩ := e0
      subst e1; subst e2; subst e3
      exact ⟨ar, a, n, c, rows, la, ln, lc, lw, ga, gn, gc, gh, pa, pn, pc, ps, rfl, hR, hR1, hR2, hR3⟩
theorem reads_iter {H : Type} (enc : TypeId × Value → H) (W : World) {base : Nat} {v : Value} {d : DataW H} {p : List MemPlace} (hv : Value.okWide Try.prog W .any base 39 v)
    (h : DataW.Trod enc Try.prog W 0 (fun _ => true) true 39 v d p) :
    ∃ ar a n c rows la ln lc lw ga gn gc gh pa pn pc ps, v = iterV ar a n c la ln lc ga gn gc pa pn pc ∧ IterA false 0 W.heap.size W ar a n c rows la ln lc lw ga gn gc gh pa pn pc ps := by
  obtain ⟨cs, rfl, hsz⟩ := okWide_struct Try.underlying39 hv
  obtain ⟨fuel, hf⟩ := h
  obtain ⟨ar, a, n, c, rows, la, ln, lc, lw, ga, gn, gc, gh, pa, pn, pc, ps, hcs, hD⟩ := reads_iterC enc W fuel _ _ hf
  obtain ⟨l⟩ := cs
  simp only [Value.cells] at hcs
  subst hcs
  exact ⟨ar, a, n, c, rows, la, ln, lc, lw, ga, gn, gc, gh, pa, pn, pc, ps, rfl, hD⟩
end Go.Proofs.Ythochdlbmaiclaa
