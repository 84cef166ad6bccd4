/- How a query that comes as an argument reads. -/
import Derived.Test.YtdimcbollnggjaaReadA
import Derived.Test.YtdimcbollnggjaaAQ
namespace Go.Proofs.Ytdimcbollnggjaa
set_option linter.unusedSimpArgs false
set_option linter.unusedVariables false
open Go.ChangeShapes Go.WideShapes Go.ChangeAt Go.RowKit Go.Deep
theorem cellsAtomsQ : Try.prog.cellsOf 22 = 1 := by kernel_rfl
theorem cellsIntQ : Try.prog.cellsOf 3 = 1 := by kernel_rfl
theorem cellsQuery : Try.prog.cellsOf 25 = 3 := by kernel_rfl
theorem reads_atomBy : ReadsBy atomR 50 := by
  intro H enc W fuel cs x h
  obtain ⟨s, a, n, c, xs, hcs, hD⟩ := reads_atomC enc W fuel cs x h
  exact ⟨⟨s, xs⟩, a, n, c, hcs, hD.1, hD.2⟩
theorem reads_atomsA {H : Type} (enc : TypeId × Value → H) (W : World) (fuel : Nat) (cs : List Value) (x : DataW H × List MemPlace) (h : DataW.trod enc Try.prog W 0 (fun _ => true) true fuel 22 cs = some x) :
    ∃ a n c xs, cs = [.slice a n c] ∧ AtomsA false 0 W.heap.size W a n c xs := reads_slice Try.underlying22 cellsAtomA (by omega) reads_atomBy enc W fuel cs x h
theorem reads_queryC {H : Type} (enc : TypeId × Value → H) (W : World) (fuel : Nat) (cs : List Value) (x : DataW H × List MemPlace)
    (h : DataW.trod enc Try.prog W 0 (fun _ => true) true fuel 25 cs = some x) :
    ∃ nv a n c xs ua un uc us, cs = [.int .i64 nv, .slice a n c, .slice ua un uc] ∧ QueryA false 0 W.heap.size W nv a n c xs ua un uc us := by
  obtain ⟨ys, m, _, _, hl, hlen, hf⟩ := DataW.trod_struct Try.underlying25 h
  rw [cellsQuery] at hl
  match ys, hlen with
  | [y0, y1, y2], _ =>
    match cs, hl with
    | [c0, c1, c2], _ =>
      have h0 := hf 0 _ rfl
      have h1 := hf 1 _ rfl
      have h2 := hf 2 _ rfl
      change DataW.trod enc Try.prog W 0 (fun _ => true) true m 3 (([c0, c1, c2].drop 0).take (Try.prog.cellsOf 3)) = some y0 at h0
      change DataW.trod enc Try.prog W 0 (fun _ => true) true m 22 (([c0, c1, c2].drop 1).take (Try.prog.cellsOf 22)) = some y1 at h1
      change DataW.trod enc Try.prog W 0 (fun _ => true) true m 23 (([c0, c1, c2].drop 2).take (Try.prog.cellsOf 23)) = some y2 at h2
      rw [cellsIntQ] at h0
      rw [cellsAtomsQ] at h1
      rw [cellsIntsA] at h2
      simp only [List.drop_zero, List.drop_succ_cons, List.take_succ_cons, List.take_zero] at h0 h1 h2
      obtain ⟨nv, e0, _, hw⟩ := DataW.trod_int Try.underlying3 h0
      obtain ⟨a, n, c, xs, e1, hR⟩ := reads_atomsA enc W m _ _ h1
      obtain ⟨ua, un, uc, us, e2, hR2⟩ := reads_intsA enc W m _ _ h2
      simp only [List.cons.injEq, and_true] at e0 e1 e2
      subst e0; subst e1; subst e2
      exact ⟨nv, a, n, c, xs, ua, un, uc, us, rfl, i64_of_wf hw, hR, hR2⟩
theorem reads_query {H : Type} (enc : TypeId × Value → H) (W : World) {base : Nat} {v : Value} {d : DataW H} {p : List MemPlace} (hv : Value.okWide Try.prog W .any base 25 v)
    (h : DataW.Trod enc Try.prog W 0 (fun _ => true) true 25 v d p) :
    ∃ nv a n c xs ua un uc us, v = queryV nv a n c ua un uc ∧ QueryA false 0 W.heap.size W nv a n c xs ua un uc us := by
  obtain ⟨cs, rfl, hsz⟩ := okWide_struct Try.underlying25 hv
  obtain ⟨fuel, hf⟩ := h
  obtain ⟨nv, a, n, c, xs, ua, un, uc, us, hcs, hD⟩ := reads_queryC enc W fuel _ _ hf
  obtain ⟨l⟩ := cs
  simp only [Value.cells] at hcs
  subst hcs
  exact ⟨nv, a, n, c, xs, ua, un, uc, us, rfl, hD⟩
end Go.Proofs.Ytdimcbollnggjaa
