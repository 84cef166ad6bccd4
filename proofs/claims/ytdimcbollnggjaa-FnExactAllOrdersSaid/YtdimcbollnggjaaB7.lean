/- The walk of the atoms with a variable, both sides. -/
import Derived.Test.YtdimcbollnggjaaB4
namespace Go.Proofs.Ytdimcbollnggjaa
set_option linter.unusedSimpArgs false
set_option linter.unusedVariables false
open Go.RowKit
/-- the places, among the first k atoms, of those that hold v -/
noncomputable def awTo (xs : List AtomD) (v : Int) (k : Nat) : List Int := ((List.range k).filter fun i => occ (ax xs i).vs v).map fun (i : Nat) => (i : Int)
theorem awTo_len (xs : List AtomD) (v : Int) (k : Nat) : (awTo xs v k).length ≤ k := by
  have := List.length_filter_le (fun i => occ (ax xs i).vs v) (List.range k)
  simpa [awTo] using this
theorem awTo_put {xs : List AtomD} {v : Int} {k : Nat} (h : occ (ax xs k).vs v = true) : awTo xs v (k + 1) = awTo xs v k ++ [(k : Int)] := by simp [awTo, List.range_succ, List.filter_append, h]
theorem awTo_keep {xs : List AtomD} {v : Int} {k : Nat} (h : occ (ax xs k).vs v = false) : awTo xs v (k + 1) = awTo xs v k := by simp [awTo, List.range_succ, List.filter_append, h]
/-- what AtomsWithVariable returns -/
noncomputable def awF (nv : Int) (xs : List AtomD) (us : List Int) (v : Int) : List Int := if qOK nv xs us = true then awTo xs v xs.length else []
theorem awF_no {nv : Int} {xs : List AtomD} {us : List Int} {v : Int} (h : qOK nv xs us = false) : awF nv xs us v = [] := by simp [awF, h]
theorem awF_yes {nv : Int} {xs : List AtomD} {us : List Int} {v : Int} (h : qOK nv xs us = true) : awF nv xs us v = awTo xs v xs.length := by simp [awF, h]
theorem awF_len (nv : Int) (xs : List AtomD) (us : List Int) (v : Int) : (awF nv xs us v).length ≤ 4 := by
  unfold awF
  split
  · next h => have := (qOK_out h).1.2.2; have := awTo_len xs v xs.length; omega
  · simp
end Go.Proofs.Ytdimcbollnggjaa
