/- Walks over lists of lists of numbers that only read. -/
import Derived.Test.YtfgkgjkgikghaaaW2
namespace Go.Proofs.Ytfgkgjkgikghaaa
set_option linter.unusedSimpArgs false
set_option linter.unusedVariables false
open Go.RowKit

/-- the sum of the lengths of the first k rows -/
def lens (xss : List (List Int)) : Nat → Nat
  | 0 => 0
  | k + 1 => lens xss k + (rx xss k).length
theorem lens_mono {xss : List (List Int)} {i k : Nat} (h : i ≤ k) : lens xss i ≤ lens xss k := by
  induction k with
  | zero => obtain rfl : i = 0 := by omega
            exact Nat.le_refl _
  | succ k ih =>
    by_cases e : i = k + 1
    · subst e; exact Nat.le_refl _
    · have := ih (by omega); simp only [lens]; omega
theorem lens_row {xss : List (List Int)} {i k : Nat} (h : i < k) : (rx xss i).length ≤ lens xss k := by
  have := lens_mono (xss := xss) (i := i + 1) (k := k) (by omega); simp only [lens] at this; omega
/-- what the measure of a list of lists leaves -/
noncomputable def szF (xss : List (List Int)) (left : Int) : Int := if (xss.length + lens xss xss.length : Nat) ≤ left then left - (xss.length + lens xss xss.length : Nat) else -1

/-- what the measure of a list leaves -/
def szI (n : Nat) (left : Int) : Int := if (n : Int) ≤ left then left - n else -1
theorem szI_yes {n : Nat} {left : Int} (h : (n : Int) ≤ left) : szI n left = left - n := if_pos h
theorem szI_no {n : Nat} {left : Int} (h : ¬ (n : Int) ≤ left) : szI n left = -1 := if_neg h
set_option maxHeartbeats 400000 in
theorem szInts {fz : Bool} {lo hi : Nat} (a : Option Addr) (n c : Nat) (xs : List Int) (left : Int) (w : World) (hI : IntsA fz lo hi w a n c xs) (h0 : 0 ≤ left) (h1 : left ≤ 1048576) :
    Calls Try.prog 15 #[.slice a n c, .int .i64 left] w (Gives w (.int .i64 (szI n left))) := by
  have hs := hI.small
  by_cases hle : (n : Int) ≤ left
  · go_enter Try.func15, Try.ntmps15
    go_wp2
    go_ret
    exact ⟨ret_int (by unfold szI; rw [if_pos (by omega)]), 0, rfl⟩
  · go_enter Try.func15, Try.ntmps15
    go_wp2
    go_ret
    exact ⟨ret_int (by unfold szI; rw [if_neg (by omega)]), 0, rfl⟩

end Go.Proofs.Ytfgkgjkgikghaaa
