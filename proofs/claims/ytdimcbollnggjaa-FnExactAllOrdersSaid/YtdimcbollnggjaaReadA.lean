/- How an atom that comes as an argument reads. -/
import Derived.Test.YtdimcbollnggjaaReads
import Derived.Test.YtdimcbollnggjaaA4
import Derived.ChangeSame
namespace Go.Proofs.Ytdimcbollnggjaa
set_option linter.unusedSimpArgs false
set_option linter.unusedVariables false
open Go.ChangeShapes Go.WideShapes Go.ChangeAt Go.RowKit Go.Deep
theorem cellsStrA : Try.prog.cellsOf 9 = 1 := by kernel_rfl
theorem cellsIntsA : Try.prog.cellsOf 23 = 1 := by kernel_rfl
theorem cellsAtomA : Try.prog.cellsOf 50 = 2 := by kernel_rfl
theorem reads_atomC {H : Type} (enc : TypeId × Value → H) (W : World) (fuel : Nat) (cs : List Value) (x : DataW H × List MemPlace)
    (h : DataW.trod enc Try.prog W 0 (fun _ => true) true fuel 50 cs = some x) : ∃ s a n c xs, cs = [.string s, .slice a n c] ∧ AtomA false 0 W.heap.size W s a n c xs := by
  obtain ⟨y0, y1, m, _, hl, h0, h1⟩ := trod_struct2 Try.underlying50 h
  rw [cellsAtomA] at hl
  match cs, hl with
  | [c0, c1], _ =>
    simp only [List.drop_zero, List.drop_succ_cons, cellsStrA, cellsIntsA, List.take_succ_cons, List.take_zero] at h0 h1
    obtain ⟨s, e0, _, hw⟩ := DataW.trod_string Try.underlying9 h0
    obtain ⟨a, n, c, xs, e1, hR⟩ := reads_intsA enc W m _ _ h1
    simp only [List.cons.injEq, and_true] at e0 e1
    subst e0; subst e1
    exact ⟨s, a, n, c, xs, rfl, hw, hR⟩
theorem reads_atom {H : Type} (enc : TypeId × Value → H) (W : World) {base : Nat} {v : Value} {d : DataW H} {p : List MemPlace} (hv : Value.okWide Try.prog W .any base 50 v)
    (h : DataW.Trod enc Try.prog W 0 (fun _ => true) true 50 v d p) : ∃ s a n c xs, v = atomV s a n c ∧ AtomA false 0 W.heap.size W s a n c xs := by
  obtain ⟨cs, rfl, hsz⟩ := okWide_struct Try.underlying50 hv
  obtain ⟨fuel, hf⟩ := h
  obtain ⟨s, a, n, c, xs, hcs, hD⟩ := reads_atomC enc W fuel _ _ hf
  obtain ⟨l⟩ := cs
  simp only [Value.cells] at hcs
  subst hcs
  exact ⟨s, a, n, c, xs, rfl, hD⟩
end Go.Proofs.Ytdimcbollnggjaa
