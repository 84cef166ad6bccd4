/- Big numbers: the laws' words for them. -/
import Derived.Test.YtnipfgmldhepkaaN6
import Derived.Test.YtnipfgmldhepkaaK1
namespace Go.Proofs.Ytnipfgmldhepkaa
set_option linter.unusedSimpArgs false
set_option linter.unusedVariables false
open Go.RowKit
set_option maxHeartbeats 800000 in
theorem eqK_Big {fz fz' : Bool} {lo hi lo' hi' : Nat} (a a' : Option Addr) (n c n' c' : Nat) (xs : List Int) (w : World) (hI : IntsA fz lo hi w a n c xs) (hh : hi ≤ w.heap.size) (hJ : IntsA fz' lo' hi' w a' n' c' xs) (hh' : hi' ≤ w.heap.size) :
    Calls Try.prog 9 #[bigV a n c, bigV a' n' c'] w (Leaves w (.bool true)) := by
  have HI := hid hI; have HJ := hid hJ; clear hI hJ
  go_enter Try.func9, Try.ntmps9
  go_wp2_with fail
  refine (eqK_Ints a a' n c n' c' xs _ (HI.out.keep (Keeps.of_below (B := w.heap.size) (by repeat (first | with_reducible assumption | with_reducible exact Below.refl _ _ | with_reducible refine below_drewN ?_ _ | with_reducible refine Below.al ?_ (by first | with_reducible exact Nat.le_refl _ | omega | (simp; done) | (simp; omega) | exact Nat.le_refl _) _ | with_reducible refine Below.setCell ?_ (by first | with_reducible exact Nat.le_refl _ | omega | (simp; done) | (simp; omega) | exact Nat.le_refl _) _ | assumption | exact Below.refl _ _ | refine below_drewN ?_ _ | refine Below.al ?_ (by first | with_reducible exact Nat.le_refl _ | omega | (simp; done) | (simp; omega) | exact Nat.le_refl _) _ | refine Below.setCell ?_ (by first | with_reducible exact Nat.le_refl _ | omega | (simp; done) | (simp; omega) | exact Nat.le_refl _) _)) hh)) (HJ.out.keep (Keeps.of_below (B := w.heap.size) (by repeat (first | with_reducible assumption | with_reducible exact Below.refl _ _ | with_reducible refine below_drewN ?_ _ | with_reducible refine Below.al ?_ (by first | with_reducible exact Nat.le_refl _ | omega | (simp; done) | (simp; omega) | exact Nat.le_refl _) _ | with_reducible refine Below.setCell ?_ (by first | with_reducible exact Nat.le_refl _ | omega | (simp; done) | (simp; omega) | exact Nat.le_refl _) _ | assumption | exact Below.refl _ _ | refine below_drewN ?_ _ | refine Below.al ?_ (by first | with_reducible exact Nat.le_refl _ | omega | (simp; done) | (simp; omega) | exact Nat.le_refl _) _ | refine Below.setCell ?_ (by first | with_reducible exact Nat.le_refl _ | omega | (simp; done) | (simp; omega) | exact Nat.le_refl _) _)) hh'))).mono ?_
  rintro e w1 ⟨rfl, m, rfl⟩
  go_wp2_with fail
  go_ret
  exact ⟨rfl, (by repeat (first | with_reducible assumption | with_reducible exact Below.refl _ _ | with_reducible refine below_drewN ?_ _ | with_reducible refine Below.al ?_ (by first | with_reducible exact Nat.le_refl _ | omega | (simp; done) | (simp; omega) | exact Nat.le_refl _) _ | with_reducible refine Below.setCell ?_ (by first | with_reducible exact Nat.le_refl _ | omega | (simp; done) | (simp; omega) | exact Nat.le_refl _) _ | assumption | exact Below.refl _ _ | refine below_drewN ?_ _ | refine Below.al ?_ (by first | with_reducible exact Nat.le_refl _ | omega | (simp; done) | (simp; omega) | exact Nat.le_refl _) _ | refine Below.setCell ?_ (by first | with_reducible exact Nat.le_refl _ | omega | (simp; done) | (simp; omega) | exact Nat.le_refl _) _))⟩
def GvMarkBig (lo hi : Nat) (w : World) (k : Int) (a : Option Addr) (n c : Nat) (xs : List Int) (e : Ending) (w' : World) : Prop := e = .returned (.int .i64 (k + (xs.length : Nat))) ∧ MarkedG lo hi w w' ∧ IntsA true lo hi w' a n c (marks k xs.length)
set_option maxHeartbeats 800000 in
theorem resK_Big {lo hi : Nat} (a : Option Addr) (n c : Nat) (xs : List Int) (k : Int) (w : World) (hI : IntsA true lo hi w a n c xs) (hh : hi ≤ w.heap.size) (h0 : 0 ≤ k) (h1 : k ≤ 1048576) (hs : xs.length ≤ 1048576) :
    Calls Try.prog 12 #[bigV a n c, .int .i64 k] w (GvMarkBig lo hi w k a n c xs) := by
  have HI := hid hI; have HS := hid hs; clear hI hs
  go_enter Try.func12, Try.ntmps12
  go_wp2_with fail
  refine (resK_Ints a n c xs k _ (HI.out.keep (Keeps.of_below (B := w.heap.size) (by repeat (first | with_reducible assumption | with_reducible exact Below.refl _ _ | with_reducible refine below_drewN ?_ _ | with_reducible refine Below.al ?_ (by first | with_reducible exact Nat.le_refl _ | omega | (simp; done) | (simp; omega) | exact Nat.le_refl _) _ | with_reducible refine Below.setCell ?_ (by first | with_reducible exact Nat.le_refl _ | omega | (simp; done) | (simp; omega) | exact Nat.le_refl _) _ | assumption | exact Below.refl _ _ | refine below_drewN ?_ _ | refine Below.al ?_ (by first | with_reducible exact Nat.le_refl _ | omega | (simp; done) | (simp; omega) | exact Nat.le_refl _) _ | refine Below.setCell ?_ (by first | with_reducible exact Nat.le_refl _ | omega | (simp; done) | (simp; omega) | exact Nat.le_refl _) _)) hh)) h0 (by omega) HS.out).mono ?_
  rintro e w1 ⟨rfl, hm, ho⟩
  have HM := hid ((MarkedG.of_below (lo := lo) (hi := hi) (w := w) (by repeat (first | with_reducible assumption | with_reducible exact Below.refl _ _ | with_reducible refine below_drewN ?_ _ | with_reducible refine Below.al ?_ (by first | with_reducible exact Nat.le_refl _ | omega | (simp; done) | (simp; omega) | exact Nat.le_refl _) _ | with_reducible refine Below.setCell ?_ (by first | with_reducible exact Nat.le_refl _ | omega | (simp; done) | (simp; omega) | exact Nat.le_refl _) _ | assumption | exact Below.refl _ _ | refine below_drewN ?_ _ | refine Below.al ?_ (by first | with_reducible exact Nat.le_refl _ | omega | (simp; done) | (simp; omega) | exact Nat.le_refl _) _ | refine Below.setCell ?_ (by first | with_reducible exact Nat.le_refl _ | omega | (simp; done) | (simp; omega) | exact Nat.le_refl _) _))).trans hm); have HO := hid ho; clear hm ho
  go_wp2_with fail
  go_ret
  exact ⟨rfl, HM.out, HO.out⟩
set_option maxHeartbeats 800000 in
theorem heldK_Big {fz : Bool} {lo hi : Nat} (a : Option Addr) (n c : Nat) (xs : List Int) (k : Int) (w : World) (hI : IntsA fz lo hi w a n c (marks k xs.length)) (hh : hi ≤ w.heap.size) (h0 : 0 ≤ k) (h1 : k ≤ 1048576) (hs : xs.length ≤ 1048576) :
    Calls Try.prog 13 #[bigV a n c, .int .i64 k] w (Leaves w (.int .i64 (k + (xs.length : Nat)))) := by
  have HI := hid hI; clear hI
  have hnn : ¬ k + (xs.length : Int) < 0 := by omega
  have hkl : ∃ m : Nat, m = xs.length := ⟨_, rfl⟩
  obtain ⟨m, hm⟩ := hkl
  rw [← hm] at HI hs hnn ⊢
  clear hm
  go_enter Try.func13, Try.ntmps13
  go_wp2_with fail
  refine (heldK_Ints a n c m k _ (HI.out.keep (Keeps.of_below (B := w.heap.size) (by repeat (first | with_reducible assumption | with_reducible exact Below.refl _ _ | with_reducible refine below_drewN ?_ _ | with_reducible refine Below.al ?_ (by first | with_reducible exact Nat.le_refl _ | omega | (simp; done) | (simp; omega) | exact Nat.le_refl _) _ | with_reducible refine Below.setCell ?_ (by first | with_reducible exact Nat.le_refl _ | omega | (simp; done) | (simp; omega) | exact Nat.le_refl _) _ | assumption | exact Below.refl _ _ | refine below_drewN ?_ _ | refine Below.al ?_ (by first | with_reducible exact Nat.le_refl _ | omega | (simp; done) | (simp; omega) | exact Nat.le_refl _) _ | refine Below.setCell ?_ (by first | with_reducible exact Nat.le_refl _ | omega | (simp; done) | (simp; omega) | exact Nat.le_refl _) _)) hh)) h0 (by omega) hs).mono ?_
  rintro e w1 ⟨rfl, m1, rfl⟩
  go_wp2_with fail
  go_ret
  exact ⟨rfl, (by repeat (first | with_reducible assumption | with_reducible exact Below.refl _ _ | with_reducible refine below_drewN ?_ _ | with_reducible refine Below.al ?_ (by first | with_reducible exact Nat.le_refl _ | omega | (simp; done) | (simp; omega) | exact Nat.le_refl _) _ | with_reducible refine Below.setCell ?_ (by first | with_reducible exact Nat.le_refl _ | omega | (simp; done) | (simp; omega) | exact Nat.le_refl _) _ | assumption | exact Below.refl _ _ | refine below_drewN ?_ _ | refine Below.al ?_ (by first | with_reducible exact Nat.le_refl _ | omega | (simp; done) | (simp; omega) | exact Nat.le_refl _) _ | refine Below.setCell ?_ (by first | with_reducible exact Nat.le_refl _ | omega | (simp; done) | (simp; omega) | exact Nat.le_refl _) _))⟩
end Go.Proofs.Ytnipfgmldhepkaa
