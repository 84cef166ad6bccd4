/- The walk of the law FnExactIsPermutation: it returns true and changes nothing that was there. -/
import Derived.Test.YtlfkpfhadcbgfaaQ1
namespace Go.Proofs.Ytlfkpfhadcbgfaa
open Go.RowKit

set_option maxHeartbeats 800000 in
theorem lawPerm (a : Option Addr) (n c : Nat) (xs : List Int) (w : World) (hI : IntsA false 0 w.heap.size w a n c xs) :
    Calls Try.prog 3 #[.slice a n c] w (Leaves w (.bool true)) := by
  by_cases hn : n ≤ 1048576
  · go_enter Try.func3, Try.ntmps3
    go_wp2_with fail
    refine (toInts a n c xs w hI (Nat.le_refl _) hn).mono ?_
    rintro e w1 ⟨a1, n1, c1, rfl, ho1, hb1⟩
    have hI1 : IntsA false 0 w.heap.size w1 a n c xs := hI.keep (Keeps.of_below hb1 (Nat.le_refl _))
    have hz1 := hb1.size
    go_wp2_with fail
    refine (specPerm _ _ _ xs _ ho1.ints).mono ?_
    rintro e w2 ⟨rfl, m2, rfl⟩
    go_wp2_with fail
    refine (toInts a n c xs _ (hI1.drewN m2) hz1 hn).mono ?_
    rintro e w3 ⟨a3, n3, c3, rfl, ho3, hb3⟩
    have hb13 : Below w.heap.size w w3 := Below.calm (below_drewN hb1 m2) hb3
    have hI3 : IntsA false 0 w.heap.size w3 a n c xs := hI.keep (Keeps.of_below hb13 (Nat.le_refl _))
    have hz3 := hb13.size
    go_wp2_with fail
    refine (implPerm _ _ _ xs _ ho3.ints).mono ?_
    rintro e w4 ⟨rfl, m4, rfl⟩
    go_wp2_with fail
    refine (toInts a n c xs _ (hI3.drewN m4) hz3 hn).mono ?_
    rintro e w5 ⟨a5, n5, c5, rfl, ho5, hb5⟩
    have ho3' : Own w1.heap.size w5 a3 n3 c3 xs := (ho3.drewN m4).keep (Keeps.of_below hb5 (Nat.le_refl _))
    go_wp2_with fail
    refine (eqInts _ _ _ _ _ _ xs xs _ ho3'.ints ho5.ints).mono ?_
    rintro e w6 ⟨rfl, m6, rfl⟩
    have he : eqL xs xs = true := by simp [eqL]
    go_wp2_with fail
    go_ret
    exact ⟨rfl, below_drewN (Below.calm (below_drewN hb13 m4) hb5) m6⟩
  · go_enter Try.func3, Try.ntmps3
    go_wp2
    go_ret
    exact ⟨rfl, Below.refl _ _⟩
end Go.Proofs.Ytlfkpfhadcbgfaa
