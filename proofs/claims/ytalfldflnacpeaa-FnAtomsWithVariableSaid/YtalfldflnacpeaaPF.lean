/- Where a number stands in a list, as a contract. -/
import Derived.Test.YtalfldflnacpeaaS1
import Derived.Test.YtalfldflnacpeaaZD
import Derived.Test.YtalfldflnacpeaaPg
namespace Go.Proofs.Ytalfldflnacpeaa
set_option linter.unusedSimpArgs false
set_option linter.unusedVariables false
open Go.RowKit
theorem l7FindX (l : List Int) (v : Int) (hl : l.length ≤ 1048576) : AFn 50 [.d (intsD l), .d (.int v)] [] (fun r os => r = .d (.int (findF l v)) ∧ os = []) := by
  have hr : I64 (findF l v) := by
    have := firstIx_le (fun i => ix l i = v) l.length
    unfold findF I64
    split <;> omega
  refine gives_afn (fnOK (by kernel_rfl)) (fun _ _ => cvInt.2 ⟨rfl, hr⟩) ?_
  rintro w G _ ⟨v1, _, rfl, h1, v2, _, rfl, h2, rfl⟩ hC
  obtain ⟨a, n, c, rfl, hI⟩ := cv_ints hC h1
  obtain ⟨rfl, _⟩ := cvInt.1 h2
  exact specFind a n c l v w hI
end Go.Proofs.Ytalfldflnacpeaa
