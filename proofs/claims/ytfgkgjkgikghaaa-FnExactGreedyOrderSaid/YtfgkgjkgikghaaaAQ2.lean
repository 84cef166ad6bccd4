/- Walks: marking a query. -/
import Derived.Test.YtfgkgjkgikghaaaAQ
import Derived.Test.YtfgkgjkgikghaaaLater
namespace Go.Proofs.Ytfgkgjkgikghaaa
set_option linter.unusedSimpArgs false
set_option linter.unusedVariables false
open Go.RowKit
theorem cntQuery_le (xs : List AtomD) (us : List Int) : cntQuery xs us ≤ szQuery xs us := by
  have := atomCnt_le xs xs.length
  unfold cntQuery szQuery atomsSz; omega
set_option maxHeartbeats 1600000 in
theorem markK_Query {lo hi : Nat} (nv : Int) (a : Option Addr) (n c : Nat) (xs : List AtomD) (ua : Option Addr) (un uc : Nat) (us : List Int) (k : Int) (w : World) (hI : QueryA true lo hi w nv a n c xs ua un uc us) (hh : hi ≤ w.heap.size) (h0 : 0 ≤ k) (h1 : k ≤ 2097152) (hs : szQuery xs us ≤ 1048576) :
    Calls Try.prog 11 #[queryV nv a n c ua un uc, .int .i64 k] w (GivesMQ lo hi w (k + (cntQuery xs us : Nat))) := by
  obtain ⟨k, rfl⟩ := Int.eq_ofNat_of_zero_le h0
  have hlx := hI.2.1.len
  have hlu := hI.2.2.len
  have hsa : atomsSz xs ≤ 1048576 := by unfold szQuery at hs; omega
  have hun : un ≤ 1048576 := by unfold szQuery at hs; omega
  have hcn : k + atomCnt xs n ≤ 3145728 := by have := atomCnt_le xs xs.length; unfold atomsSz at hsa; rw [hlx] at this hsa; omega
  have HL := hid (And.intro hlx hlu); clear hlx hlu
  have HS := hid hsa; clear hsa hs
  have HI := hid hI; clear hI
  obtain ⟨m, hm⟩ : ∃ m : Nat, m = k + atomCnt xs n := ⟨_, rfl⟩
  have hmb : m ≤ 3145728 := by omega
  have HM := hid hm; clear hm hcn
  go_enter Try.func11, Try.ntmps11
  go_wp2_with fail
  refine (markAtoms a n c xs k _ (beAtoms (B := w.heap.size) HI.out.2.1 (by repeat (first | with_reducible assumption | with_reducible exact Below.refl _ _ | with_reducible refine below_drewN ?_ _ | with_reducible refine Below.al ?_ (by first | with_reducible exact Nat.le_refl _ | omega | (simp; done) | (simp; omega) | exact Nat.le_refl _) _ | with_reducible refine Below.setCell ?_ (by first | with_reducible exact Nat.le_refl _ | omega | (simp; done) | (simp; omega) | exact Nat.le_refl _) _ | assumption | exact Below.refl _ _ | refine below_drewN ?_ _ | refine Below.al ?_ (by first | with_reducible exact Nat.le_refl _ | omega | (simp; done) | (simp; omega) | exact Nat.le_refl _) _ | refine Below.setCell ?_ (by first | with_reducible exact Nat.le_refl _ | omega | (simp; done) | (simp; omega) | exact Nat.le_refl _) _)) hh) (by first | with_reducible exact Nat.le_refl _ | omega | (simp; done) | (simp; omega) | exact Nat.le_refl _) (by omega) HS.out).mono ?_
  rintro e w1 ⟨rfl, hm1⟩
  rw [← HM.out]
  have hm2 : MarkedQ lo hi w w1 := (MarkedQ.of (MarkedG.of_below (by repeat (first | with_reducible assumption | with_reducible exact Below.refl _ _ | with_reducible refine below_drewN ?_ _ | with_reducible refine Below.al ?_ (by first | with_reducible exact Nat.le_refl _ | omega | (simp; done) | (simp; omega) | exact Nat.le_refl _) _ | with_reducible refine Below.setCell ?_ (by first | with_reducible exact Nat.le_refl _ | omega | (simp; done) | (simp; omega) | exact Nat.le_refl _) _ | assumption | exact Below.refl _ _ | refine below_drewN ?_ _ | refine Below.al ?_ (by first | with_reducible exact Nat.le_refl _ | omega | (simp; done) | (simp; omega) | exact Nat.le_refl _) _ | refine Below.setCell ?_ (by first | with_reducible exact Nat.le_refl _ | omega | (simp; done) | (simp; omega) | exact Nat.le_refl _) _)))).trans hm1
  have c2 : w1.cell? ⟨w.heap.size, 2, none⟩ = some (.slice ua un uc) := by rw [boxQ hm1 _ (by simp) (by omega)]; first | (go_simp; done) | (simp [World.cell?]; done)
  obtain ⟨ys, hy⟩ := HI.out.2.2.markedQ hm2
  have HY := hid hy; clear hy
  have HM2 := hid hm2; clear hm1 hm2
  go_wp2_with fail
  refine (markInts ua un uc ys m _ HY.out (by omega) (by omega) hun).mono ?_
  rintro e w2 ⟨rfl, hm3, _⟩
  have HM3 := hid (HM2.out.trans (.of (.of_marked hm3))); clear hm3
  have HE : Hid ((m : Int) + un = (k : Int) + (cntQuery xs us : Nat)) := hid (by unfold cntQuery; rw [HL.out.1, HL.out.2, HM.out]; omega)
  go_wp2_with fail
  go_ret
  exact ⟨by rw [← HE.out]; rfl, HM3.out⟩
end Go.Proofs.Ytfgkgjkgikghaaa
