/- The walk of the law FnExactIsWithinAGMBound: it returns true and changes nothing that was there. -/
import Derived.Test.YtnipfgmldhepkaaZE7
import Derived.Test.YtnipfgmldhepkaaReadQ
namespace Go.Proofs.Ytnipfgmldhepkaa
set_option linter.unusedSimpArgs false
set_option linter.unusedVariables false
open Go.RowKit
theorem law_FnExactIsWithinAGMBound (a0 : Option Addr) (n0 : Nat) (c0 : Nat) (xs0 : List Int) (a1 : Option Addr) (n1 : Nat) (c1 : Nat) (xs1 : List RatD) (x2 : Int) (w : World) (hD0 : IntsA false (0) w.heap.size w a0 n0 c0 xs0) (hD1 : RatsA false (0) w.heap.size w a1 n1 c1 xs1) (hD2 : I64 x2) :
    Calls Try.prog 4 #[.slice a0 n0 c0, .slice a1 n1 c1, .int .i64 x2] w (Leaves w (.bool true)) := by
  have h := lawWithinA xs0 xs1 x2 (by rw [hD0.len]; exact hD0.small) (by rw [hD1.len]; exact hD1.small)
  refine law_of_afn (vs := [.slice a0 n0 c0, .slice a1 n1 c1, .int .i64 x2]) h (fun G hG => ⟨_, _, rfl, cvSl.2 (ints_cx hD0 (fun b i _ hb => by rw [hG]; exact hb)), _, _, rfl, cvSl.2 (rats_cx hD1 (fun b i _ hb => by rw [hG]; exact hb)), _, _, rfl, cvInt.2 ⟨rfl, hD2⟩, rfl⟩)
end Go.Proofs.Ytnipfgmldhepkaa
