/- Walks: feasible points for a minimum and a maximum, both sides. -/
import Derived.Test.YtgannpmngkgejaaR12b
namespace Go.Proofs.Ytgannpmngkgejaa
set_option linter.unusedSimpArgs false
set_option linter.unusedVariables false
open Go.RowKit
set_option maxHeartbeats 800000 in
theorem implFeasMin {fz fz' : Bool} {lo hi lo' hi' : Nat} (a : Option Addr) (n c : Nat) (xs : List (List RatD)) (ba : Option Addr) (bn bc : Nat) (bs : List RatD) (ca : Option Addr) (cn cc : Nat) (cs : List RatD) (pa : Option Addr) (pn pc : Nat) (ps : List RatD) (w : World)
    (hI : LPA fz lo hi w a n c xs ba bn bc bs ca cn cc cs) (hh : hi ≤ w.heap.size) (hJ : RatsA fz' lo' hi' w pa pn pc ps) (hh' : hi' ≤ w.heap.size) :
    Calls Try.prog 16 #[lpV a n c ba bn bc ca cn cc, .slice pa pn pc] w (Leaves w (.bool (feasB xs bs cs ps 1))) := by
  have HI := hid (And.intro hI hJ); clear hI hJ
  go_enter Try.func16, Try.ntmps16
  go_wp2_with fail
  refine (implFeas a n c xs ba bn bc bs ca cn cc cs pa pn pc ps 1 _ (beLP (B := w.heap.size) HI.out.1 (by repeat (first | assumption | exact Below.refl _ _ | refine below_drewN ?_ _ | refine Below.al ?_ (by first | exact Nat.le_refl _ | omega | (simp; done) | (simp; omega)) _ | refine Below.setCell ?_ (by first | exact Nat.le_refl _ | omega | (simp; done) | (simp; omega)) _)) hh) (by first | exact Nat.le_refl _ | omega | (simp; done) | (simp; omega)) (beRats (B := w.heap.size) HI.out.2 (by repeat (first | assumption | exact Below.refl _ _ | refine below_drewN ?_ _ | refine Below.al ?_ (by first | exact Nat.le_refl _ | omega | (simp; done) | (simp; omega)) _ | refine Below.setCell ?_ (by first | exact Nat.le_refl _ | omega | (simp; done) | (simp; omega)) _)) hh') (by first | exact Nat.le_refl _ | omega | (simp; done) | (simp; omega)) (by decide)).mono ?_
  rintro e w1 ⟨rfl, hb1⟩
  have hb2 : Below w.heap.size w w1 := Below.trans (by repeat (first | assumption | exact Below.refl _ _ | refine below_drewN ?_ _ | refine Below.al ?_ (by first | exact Nat.le_refl _ | omega | (simp; done) | (simp; omega)) _ | refine Below.setCell ?_ (by first | exact Nat.le_refl _ | omega | (simp; done) | (simp; omega)) _)) (hb1.mono (by first | exact Nat.le_refl _ | omega | (simp; done) | (simp; omega)))
  have HB := hid hb2; clear hb1 hb2
  go_wp2_with fail
  go_ret
  exact ⟨rfl, HB.out⟩
set_option maxHeartbeats 800000 in
theorem implFeasMax {fz fz' : Bool} {lo hi lo' hi' : Nat} (a : Option Addr) (n c : Nat) (xs : List (List RatD)) (ba : Option Addr) (bn bc : Nat) (bs : List RatD) (ca : Option Addr) (cn cc : Nat) (cs : List RatD) (pa : Option Addr) (pn pc : Nat) (ps : List RatD) (w : World)
    (hI : LPA fz lo hi w a n c xs ba bn bc bs ca cn cc cs) (hh : hi ≤ w.heap.size) (hJ : RatsA fz' lo' hi' w pa pn pc ps) (hh' : hi' ≤ w.heap.size) :
    Calls Try.prog 19 #[lpV a n c ba bn bc ca cn cc, .slice pa pn pc] w (Leaves w (.bool (feasB xs bs cs ps (-1)))) := by
  have HI := hid (And.intro hI hJ); clear hI hJ
  go_enter Try.func19, Try.ntmps19
  go_wp2_with fail
  refine (implFeas a n c xs ba bn bc bs ca cn cc cs pa pn pc ps (-1) _ (beLP (B := w.heap.size) HI.out.1 (by repeat (first | assumption | exact Below.refl _ _ | refine below_drewN ?_ _ | refine Below.al ?_ (by first | exact Nat.le_refl _ | omega | (simp; done) | (simp; omega)) _ | refine Below.setCell ?_ (by first | exact Nat.le_refl _ | omega | (simp; done) | (simp; omega)) _)) hh) (by first | exact Nat.le_refl _ | omega | (simp; done) | (simp; omega)) (beRats (B := w.heap.size) HI.out.2 (by repeat (first | assumption | exact Below.refl _ _ | refine below_drewN ?_ _ | refine Below.al ?_ (by first | exact Nat.le_refl _ | omega | (simp; done) | (simp; omega)) _ | refine Below.setCell ?_ (by first | exact Nat.le_refl _ | omega | (simp; done) | (simp; omega)) _)) hh') (by first | exact Nat.le_refl _ | omega | (simp; done) | (simp; omega)) (by decide)).mono ?_
  rintro e w1 ⟨rfl, hb1⟩
  have hb2 : Below w.heap.size w w1 := Below.trans (by repeat (first | assumption | exact Below.refl _ _ | refine below_drewN ?_ _ | refine Below.al ?_ (by first | exact Nat.le_refl _ | omega | (simp; done) | (simp; omega)) _ | refine Below.setCell ?_ (by first | exact Nat.le_refl _ | omega | (simp; done) | (simp; omega)) _)) (hb1.mono (by first | exact Nat.le_refl _ | omega | (simp; done) | (simp; omega)))
  have HB := hid hb2; clear hb1 hb2
  go_wp2_with fail
  go_ret
  exact ⟨rfl, HB.out⟩
set_option maxHeartbeats 800000 in
theorem specFeasMin {fz fz' : Bool} {lo hi lo' hi' : Nat} (a : Option Addr) (n c : Nat) (xs : List (List RatD)) (ba : Option Addr) (bn bc : Nat) (bs : List RatD) (ca : Option Addr) (cn cc : Nat) (cs : List RatD) (pa : Option Addr) (pn pc : Nat) (ps : List RatD) (w : World)
    (hI : LPA fz lo hi w a n c xs ba bn bc bs ca cn cc cs) (hh : hi ≤ w.heap.size) (hJ : RatsA fz' lo' hi' w pa pn pc ps) (hh' : hi' ≤ w.heap.size) :
    Calls Try.prog 14 #[lpV a n c ba bn bc ca cn cc, .slice pa pn pc] w (Leaves w (.bool (feasB xs bs cs ps 1))) := by
  have HI := hid (And.intro hI hJ); clear hI hJ
  go_enter Try.func14, Try.ntmps14
  go_wp2_with fail
  refine (specFeas a n c xs ba bn bc bs ca cn cc cs pa pn pc ps 1 _ (beLP (B := w.heap.size) HI.out.1 (by repeat (first | assumption | exact Below.refl _ _ | refine below_drewN ?_ _ | refine Below.al ?_ (by first | exact Nat.le_refl _ | omega | (simp; done) | (simp; omega)) _ | refine Below.setCell ?_ (by first | exact Nat.le_refl _ | omega | (simp; done) | (simp; omega)) _)) hh) (by first | exact Nat.le_refl _ | omega | (simp; done) | (simp; omega)) (beRats (B := w.heap.size) HI.out.2 (by repeat (first | assumption | exact Below.refl _ _ | refine below_drewN ?_ _ | refine Below.al ?_ (by first | exact Nat.le_refl _ | omega | (simp; done) | (simp; omega)) _ | refine Below.setCell ?_ (by first | exact Nat.le_refl _ | omega | (simp; done) | (simp; omega)) _)) hh') (by first | exact Nat.le_refl _ | omega | (simp; done) | (simp; omega)) (by decide)).mono ?_
  rintro e w1 ⟨rfl, hb1⟩
  have hb2 : Below w.heap.size w w1 := Below.trans (by repeat (first | assumption | exact Below.refl _ _ | refine below_drewN ?_ _ | refine Below.al ?_ (by first | exact Nat.le_refl _ | omega | (simp; done) | (simp; omega)) _ | refine Below.setCell ?_ (by first | exact Nat.le_refl _ | omega | (simp; done) | (simp; omega)) _)) (hb1.mono (by first | exact Nat.le_refl _ | omega | (simp; done) | (simp; omega)))
  have HB := hid hb2; clear hb1 hb2
  go_wp2_with fail
  go_ret
  exact ⟨rfl, HB.out⟩
set_option maxHeartbeats 800000 in
theorem specFeasMax {fz fz' : Bool} {lo hi lo' hi' : Nat} (a : Option Addr) (n c : Nat) (xs : List (List RatD)) (ba : Option Addr) (bn bc : Nat) (bs : List RatD) (ca : Option Addr) (cn cc : Nat) (cs : List RatD) (pa : Option Addr) (pn pc : Nat) (ps : List RatD) (w : World)
    (hI : LPA fz lo hi w a n c xs ba bn bc bs ca cn cc cs) (hh : hi ≤ w.heap.size) (hJ : RatsA fz' lo' hi' w pa pn pc ps) (hh' : hi' ≤ w.heap.size) :
    Calls Try.prog 18 #[lpV a n c ba bn bc ca cn cc, .slice pa pn pc] w (Leaves w (.bool (feasB xs bs cs ps (-1)))) := by
  have HI := hid (And.intro hI hJ); clear hI hJ
  go_enter Try.func18, Try.ntmps18
  go_wp2_with fail
  refine (specFeas a n c xs ba bn bc bs ca cn cc cs pa pn pc ps (-1) _ (beLP (B := w.heap.size) HI.out.1 (by repeat (first | assumption | exact Below.refl _ _ | refine below_drewN ?_ _ | refine Below.al ?_ (by first | exact Nat.le_refl _ | omega | (simp; done) | (simp; omega)) _ | refine Below.setCell ?_ (by first | exact Nat.le_refl _ | omega | (simp; done) | (simp; omega)) _)) hh) (by first | exact Nat.le_refl _ | omega | (simp; done) | (simp; omega)) (beRats (B := w.heap.size) HI.out.2 (by repeat (first | assumption | exact Below.refl _ _ | refine below_drewN ?_ _ | refine Below.al ?_ (by first | exact Nat.le_refl _ | omega | (simp; done) | (simp; omega)) _ | refine Below.setCell ?_ (by first | exact Nat.le_refl _ | omega | (simp; done) | (simp; omega)) _)) hh') (by first | exact Nat.le_refl _ | omega | (simp; done) | (simp; omega)) (by decide)).mono ?_
  rintro e w1 ⟨rfl, hb1⟩
  have hb2 : Below w.heap.size w w1 := Below.trans (by repeat (first | assumption | exact Below.refl _ _ | refine below_drewN ?_ _ | refine Below.al ?_ (by first | exact Nat.le_refl _ | omega | (simp; done) | (simp; omega)) _ | refine Below.setCell ?_ (by first | exact Nat.le_refl _ | omega | (simp; done) | (simp; omega)) _)) (hb1.mono (by first | exact Nat.le_refl _ | omega | (simp; done) | (simp; omega)))
  have HB := hid hb2; clear hb1 hb2
  go_wp2_with fail
  go_ret
  exact ⟨rfl, HB.out⟩
end Go.Proofs.Ytgannpmngkgejaa
