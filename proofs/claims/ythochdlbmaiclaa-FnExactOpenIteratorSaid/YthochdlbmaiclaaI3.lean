/- The walk of the reference's test of one level's place. -/
import Derived.Test.YthochdlbmaiclaaI2
import Derived.Deep.CutBlock
import Derived.Deep.DeepCutAuto
namespace Go.Proofs.Ythochdlbmaiclaa
set_option linter.unusedSimpArgs false
set_option linter.unusedVariables false
open Go.RowKit
open Classical in
noncomputable def firstF (rows : List (List Int)) (k p l h : Nat) : Bool := decide (p = l ∨ p = h ∨ kx rows p k ≠ kx rows (p - 1) k)
set_option maxRecDepth 100000 in
set_option maxHeartbeats 6400000 in
theorem specFirst {fz : Bool} {lo hi : Nat} (ar : Int) (a : Option Addr) (n c : Nat) (rows : List (List Int)) (la : Option Addr) (ln lc : Nat) (lw : List Int) (ga : Option Addr) (gn gc : Nat) (gh : List Int) (pa : Option Addr) (pn pc : Nat) (ps : List Int) (k p l h : Nat) (w : World)
    (hI : IterA fz lo hi w ar a n c rows la ln lc lw ga gn gc gh pa pn pc ps) (hh : hi ≤ w.heap.size) (hk1 : k < ln) (hk2 : k < gn) (hk3 : k < pn) (e1 : ix lw k = l) (e2 : ix gh k = h) (e3 : ix ps k = p) (hlp : l ≤ p) (hph : p ≤ h) (hhn : h ≤ n) (hrow : ∀ i, i < n → k < (rx rows i).length) :
    Calls Try.prog 57 #[iterV ar a n c la ln lc ga gn gc pa pn pc, .int .i64 k] w (Leaves w (.bool (firstF rows k p l h))) := by
  have hs1 := hI.1.2.small
  have hs2 := hI.2.1.small
  have hs3 := hI.2.2.1.small
  have hs4 := hI.2.2.2.small
  have HR := hid hrow; clear hrow
  obtain ⟨W, hW⟩ : ∃ W, W = w.alloc (.cells #[.int .i64 ar, .slice a n c, .slice la ln lc, .slice ga gn gc, .slice pa pn pc] 29) := ⟨_, rfl⟩
  have hBW : Below w.heap.size w W := by rw [hW]; exact (by repeat (first | with_reducible assumption | with_reducible exact Below.refl _ _ | with_reducible refine below_drewN ?_ _ | with_reducible refine Below.al ?_ (by first | with_reducible exact Nat.le_refl _ | omega | (simp; done) | (simp; omega) | exact Nat.le_refl _) _ | with_reducible refine Below.setCell ?_ (by first | with_reducible exact Nat.le_refl _ | omega | (simp; done) | (simp; omega) | exact Nat.le_refl _) _ | assumption | exact Below.refl _ _ | refine below_drewN ?_ _ | refine Below.al ?_ (by first | with_reducible exact Nat.le_refl _ | omega | (simp; done) | (simp; omega) | exact Nat.le_refl _) _ | refine Below.setCell ?_ (by first | with_reducible exact Nat.le_refl _ | omega | (simp; done) | (simp; omega) | exact Nat.le_refl _) _))
  have hI1 := beIter hI hBW hh
  have c0 : W.cell? ⟨w.heap.size, 0, none⟩ = some (.int .i64 ar) := by rw [hW]; simp
  have c1 : W.cell? ⟨w.heap.size, 1, none⟩ = some (.slice a n c) := by rw [hW]; simp
  have c2 : W.cell? ⟨w.heap.size, 2, none⟩ = some (.slice la ln lc) := by rw [hW]; simp
  have c3 : W.cell? ⟨w.heap.size, 3, none⟩ = some (.slice ga gn gc) := by rw [hW]; simp
  have c4 : W.cell? ⟨w.heap.size, 4, none⟩ = some (.slice pa pn pc) := by rw [hW]; simp
  have HBW := hid hBW; clear hBW
  have HI := hid hI; clear hI
  obtain ⟨lb, lo', rfl, d1, _⟩ := intsAt hI1.2.1 hk1
  obtain ⟨gb, go', rfl, d2, _⟩ := intsAt hI1.2.2.1 hk2
  obtain ⟨pb, po', rfl, d3, i3⟩ := intsAt hI1.2.2.2 hk3
  rw [e1] at d1
  rw [e2] at d2
  rw [e3] at d3
  have HX := hid (And.intro e1 (And.intro e2 e3)); clear e1 e2 e3 i3
  have hA := hI1.1.2
  have HA := hid hA
  clear hI1 hA
  by_cases f1 : p = l
  · have hb1 : ((p : Int) == (l : Int)) = true := by simp [f1]
    have HF := hid (show firstF rows k p l h = true by simp [firstF, f1])
    have H1 := hid f1; clear f1
    have HWW := hid hW; clear hW
    go_enter Try.func57, Try.ntmps57
    go_upto_region 1 with fail
    rw [← HWW.out]
    go_wp2_with fail
    go_quiet (fail)
    go_wp2_with fail
    go_ret
    exact ⟨by rw [HF.out]; rfl, below_drewN HBW.out _⟩
  · have hb1 : ((p : Int) == (l : Int)) = false := by simp; omega
    by_cases f2 : p < n
    · have hb2 : decide ((p : Int) < (n : Int)) = true := by simp; omega
      obtain ⟨q, rfl⟩ : ∃ q, p = q + 1 := ⟨p - 1, by omega⟩
      obtain ⟨b, off, rfl⟩ := RowsA.some HA.out (show 0 < n by omega)
      obtain ⟨b2, off2, rn, rc, y0, y1, y2, y3, y4, _⟩ := rowsKey HA.out f2 (HR.out (q + 1) f2)
      obtain ⟨b4, off4, rn4, rc4, z0, z1, z2, z3, z4, _⟩ := rowsKey HA.out (show q < n by omega) (HR.out q (by omega))
      have hw2 : IntKind.i64.wrap (((q + 1 : Nat) : Int) - 1) = q := by rw [show ((q + 1 : Nat) : Int) - 1 = q by omega]; exact IntWalk.i64_in _ (by omega)
      have hw3 : IntKind.i64.wrap ((q : Int) + 1 - 1) = q := by rw [show (q : Int) + 1 - 1 = q by omega]; exact IntWalk.i64_in _ (by omega)
      have hb2' : decide ((q : Int) + 1 < (n : Int)) = true := by simp; omega
      have hb1' : ((q : Int) + 1 == (l : Int)) = false := by simp; omega
      have hF : firstF rows k (q + 1) l h = decide (q + 1 = h ∨ kx rows (q + 1) k ≠ kx rows q k) := by unfold firstF; rw [Bool.eq_iff_iff]; simp [f1]
      generalize kx rows (q + 1) k = v1 at *
      generalize kx rows q k = v2 at *
      by_cases f3 : v1 = v2
      · have hb3 : (v1 != v2) = false := by simp [f3]
        by_cases f4 : q + 1 = h
        · have hb4 : (((q + 1 : Nat) : Int) == (h : Int)) = true := by simp; omega
          have hb4' : ((q : Int) + 1 == (h : Int)) = true := by simp; omega
          have HF := hid (show firstF rows k (q + 1) l h = true by rw [hF]; simp [f4])
          have H1 := hid (And.intro f1 (And.intro f3 (And.intro f4 hF))); clear f1 f3 f4 hF
          have HWW := hid hW; clear hW
          go_enter Try.func57, Try.ntmps57
          go_upto_region 1 with fail
          rw [← HWW.out]
          go_wp2_with fail
          go_quiet (fail)
          go_wp2_with fail
          go_ret
          exact ⟨by rw [HF.out]; rfl, below_drewN HBW.out _⟩
        · have hb4 : (((q + 1 : Nat) : Int) == (h : Int)) = false := by simp; omega
          have hb4' : ((q : Int) + 1 == (h : Int)) = false := by simp; omega
          have HF := hid (show firstF rows k (q + 1) l h = false by rw [hF]; simp [f4, f3])
          have H1 := hid (And.intro f1 (And.intro f3 (And.intro f4 hF))); clear f1 f3 f4 hF
          have HWW := hid hW; clear hW
          go_enter Try.func57, Try.ntmps57
          go_upto_region 1 with fail
          rw [← HWW.out]
          go_wp2_with fail
          go_quiet (fail)
          go_wp2_with fail
          go_ret
          exact ⟨by rw [HF.out]; rfl, below_drewN HBW.out _⟩
      · have hb3 : (v1 != v2) = true := by simp [f3]
        have HF := hid (show firstF rows k (q + 1) l h = true by rw [hF]; simp [f3])
        have H1 := hid (And.intro f1 (And.intro f3 hF)); clear f1 f3 hF
        have HWW := hid hW; clear hW
        go_enter Try.func57, Try.ntmps57
        go_upto_region 1 with fail
        rw [← HWW.out]
        go_wp2_with fail
        go_quiet (fail)
        go_wp2_with fail
        go_ret
        exact ⟨by rw [HF.out]; rfl, below_drewN HBW.out _⟩
    · have hF : firstF rows k p l h = true := by simp [firstF, show p = h by omega]
      have HF := hid hF; clear hF
      obtain rfl : p = h := by omega
      obtain rfl : p = n := by omega
      have hb2 : decide ((p : Int) < (p : Int)) = false := by simp
      have hb4 : ((p : Int) == (p : Int)) = true := by simp
      have H1 := hid (And.intro f1 f2); clear f1 f2 hph hhn
      have HWW := hid hW; clear hW
      go_enter Try.func57, Try.ntmps57
      go_upto_region 1 with fail
      rw [← HWW.out]
      go_wp2_with fail
      go_quiet (fail)
      go_wp2_with fail
      go_ret
      exact ⟨by rw [HF.out]; rfl, below_drewN HBW.out _⟩
end Go.Proofs.Ythochdlbmaiclaa
