/- How rational numbers, slices of them, matrices and linear programs that come as arguments read. -/
import Derived.Test.YtnipfgmldhepkaaReads
import Derived.Test.YtnipfgmldhepkaaR6
import Derived.ChangeSame
namespace Go.Proofs.Ytnipfgmldhepkaa
set_option linter.unusedSimpArgs false
set_option linter.unusedVariables false
open Go.ChangeShapes Go.WideShapes Go.ChangeAt Go.RowKit Go.Deep
theorem cellsIntR : Try.prog.cellsOf 3 = 1 := by kernel_rfl
theorem cellsRatL : Try.prog.cellsOf 51 = 2 := by kernel_rfl
theorem reads_ratBy : ReadsBy ratR 51 := by
  intro H enc W fuel cs x h
  obtain ⟨y0, y1, m, _, hl, h0, h1⟩ := trod_struct2 Try.underlying51 h
  rw [cellsRatL] at hl
  match cs, hl with
  | [c0, c1], _ =>
    simp only [List.drop_zero, List.drop_succ_cons, cellsIntR, List.take_succ_cons, List.take_zero] at h0 h1
    obtain ⟨n, e0, _, hw⟩ := DataW.trod_int Try.underlying3 h0
    obtain ⟨d, e1, _, hw1⟩ := DataW.trod_int Try.underlying3 h1
    simp only [List.cons.injEq, and_true] at e0 e1
    subst e0; subst e1
    exact ⟨⟨n, d⟩, rfl, i64_of_wf hw, i64_of_wf hw1⟩
theorem reads_ratsA {H : Type} (enc : TypeId × Value → H) (W : World) (fuel : Nat) (cs : List Value) (x : DataW H × List MemPlace) (h : DataW.trod enc Try.prog W 0 (fun _ => true) true fuel 32 cs = some x) :
    ∃ a n c xs, cs = [.slice a n c] ∧ RatsA false 0 W.heap.size W a n c xs := reads_slice Try.underlying32 cellsRatL (by omega) reads_ratBy enc W fuel cs x h
theorem reads_ratsBy : ReadsBy matR 32 := by
  intro H enc W fuel cs x h
  obtain ⟨a, n, c, xs, h1, h2⟩ := reads_ratsA enc W fuel cs x h
  exact ⟨xs, a, n, c, h1, h2⟩
end Go.Proofs.Ytnipfgmldhepkaa
