/- How a trie that comes as an argument reads. -/
import Derived.Test.YteccheoejmmjeaaReads
import Derived.Test.YteccheoejmmjeaaK1
import Derived.ChangeSame
namespace Go.Proofs.Yteccheoejmmjeaa
set_option linter.unusedSimpArgs false
set_option linter.unusedVariables false
open Go.ChangeShapes Go.WideShapes Go.ChangeAt Go.RowKit Go.Deep
theorem cellsInt : Try.prog.cellsOf 3 = 1 := by kernel_rfl
theorem cellsIntsT : Try.prog.cellsOf 25 = 1 := by kernel_rfl
theorem cellsRowsT : Try.prog.cellsOf 22 = 1 := by kernel_rfl
theorem cellsTrieT : Try.prog.cellsOf 40 = 2 := by kernel_rfl
/-- a row of two cells that reads as a trie -/
theorem reads_trieC {H : Type} (enc : TypeId × Value → H) (W : World) (fuel : Nat) (cs : List Value) (x : DataW H × List MemPlace)
    (h : DataW.trod enc Try.prog W 0 (fun _ => true) true fuel 40 cs = some x) : ∃ ar a n c rows, cs = [.int .i64 ar, .slice a n c] ∧ TrieA false 0 W.heap.size W ar a n c rows := by
  obtain ⟨y0, y1, m, _, hl, h0, h1⟩ := trod_struct2 Try.underlying40 h
  rw [cellsTrieT] at hl
  match cs, hl with
  | [c0, c1], _ =>
    simp only [List.drop_zero, List.drop_succ_cons, cellsInt, cellsRowsT, List.take_succ_cons, List.take_zero] at h0 h1
    obtain ⟨ar, e0, _, hw⟩ := DataW.trod_int Try.underlying3 h0
    obtain ⟨a, n, c, rows, e1, hR⟩ := reads_rows enc W m _ _ h1
    simp only [List.cons.injEq, and_true] at e0 e1
    subst e0; subst e1
    exact ⟨ar, a, n, c, rows, rfl, i64_of_wf hw, hR⟩
theorem reads_trie {H : Type} (enc : TypeId × Value → H) (W : World) {base : Nat} {v : Value} {d : DataW H} {p : List MemPlace} (hv : Value.okWide Try.prog W .any base 40 v)
    (h : DataW.Trod enc Try.prog W 0 (fun _ => true) true 40 v d p) : ∃ ar a n c rows, v = trieV ar a n c ∧ TrieA false 0 W.heap.size W ar a n c rows := by
  obtain ⟨cs, rfl, hsz⟩ := okWide_struct Try.underlying40 hv
  obtain ⟨fuel, hf⟩ := h
  obtain ⟨ar, a, n, c, rows, hcs, hD⟩ := reads_trieC enc W fuel _ _ hf
  obtain ⟨l⟩ := cs
  simp only [Value.cells] at hcs
  subst hcs
  exact ⟨ar, a, n, c, rows, rfl, hD⟩
end Go.Proofs.Yteccheoejmmjeaa
