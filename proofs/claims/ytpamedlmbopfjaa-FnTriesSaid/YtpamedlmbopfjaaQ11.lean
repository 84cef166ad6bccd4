/- Walks: the number of rows behind a prefix. -/
import Derived.Test.YtpamedlmbopfjaaQ10
namespace Go.Proofs.Ytpamedlmbopfjaa
set_option linter.unusedSimpArgs false
set_option linter.unusedVariables false
open Go.RowKit
theorem rangeLo_le (ar : Int) (rows : List (List Int)) (p : List Int) : rangeLo ar rows p ≤ rows.length := by
  unfold rangeLo; split
  · exact preLo_le _ _
  · exact Nat.zero_le _
theorem rangeHi_le (ar : Int) (rows : List (List Int)) (p : List Int) : rangeHi ar rows p ≤ rows.length := by
  unfold rangeHi; split
  · exact firstIx_le _ _
  · exact Nat.zero_le _
noncomputable def countF (ar : Int) (rows : List (List Int)) (p : List Int) : Int := (rangeHi ar rows p : Int) - rangeLo ar rows p
theorem implCount {fz fz' : Bool} {lo hi lo' hi' : Nat} (ar : Int) (a : Option Addr) (n c : Nat) (rows : List (List Int)) (pa : Option Addr) (pn pc : Nat) (p : List Int) (w : World) (hI : RowsA fz lo hi w a n c rows) (hh : hi ≤ w.heap.size) (har : I64 ar)
    (hP : IntsA fz' lo' hi' w pa pn pc p) (hh' : hi' ≤ w.heap.size) :
    Calls Try.prog 13 #[trieV ar a n c, .slice pa pn pc] w (Leaves w (.int .i64 (countF ar rows p))) := by
  have HAR := hid har; clear har
  have hs := hI.small
  have h1 := rangeLo_le ar rows p
  have h2 := rangeHi_le ar rows p
  have hl := hI.len
  rw [hl] at h1 h2
  clear hl
  go_enter Try.func13, Try.ntmps13
  go_wp2_with fail
  refine (implRange ar a n c rows pa pn pc p _ (hI.al intsOK hh _) (by first | with_reducible exact Nat.le_refl _ | omega | (simp; done) | (simp; omega) | exact Nat.le_refl _) HAR.out (hP.al hh' _) (by first | with_reducible exact Nat.le_refl _ | omega | (simp; done) | (simp; omega) | exact Nat.le_refl _)).mono ?_
  rintro e w1 ⟨rfl, hb1⟩
  have hb2 := (Below.al (Below.refl w.heap.size w) (Nat.le_refl _) _).trans (hb1.mono (by first | with_reducible exact Nat.le_refl _ | omega | (simp; done) | (simp; omega) | exact Nat.le_refl _))
  have HB := hid hb2; clear hb2 hb1
  generalize hx : rangeLo ar rows p = x at *
  generalize hy : rangeHi ar rows p = y at *
  have HX := hid (And.intro hx hy); clear hx hy
  go_wp2_with fail
  go_ret
  exact ⟨ret_int (by unfold countF; rw [HX.out.1, HX.out.2]), HB.out⟩
end Go.Proofs.Ytpamedlmbopfjaa
