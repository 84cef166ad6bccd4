/- Walks: numbers within bounds, sets of numbers, permutations. -/
import Derived.Test.YtalfldflnacpeaaW1
namespace Go.Proofs.Ytalfldflnacpeaa
set_option linter.unusedSimpArgs false
set_option linter.unusedVariables false
open Go.RowKit
theorem implWithin (x lo hi : Int) (w : World) : Calls Try.prog 53 #[.int .i64 x, .int .i64 lo, .int .i64 hi] w (Gives w (.bool (decide (lo ≤ x ∧ x ≤ hi)))) := by
  by_cases h1 : lo ≤ x
  · by_cases h2 : x ≤ hi
    · have hd : decide (lo ≤ x ∧ x ≤ hi) = true := by simp; omega
      rw [hd]
      go_enter Try.func53, Try.ntmps53
      go_wp2
      go_ret
      exact ⟨rfl, 0, rfl⟩
    · have hd : decide (lo ≤ x ∧ x ≤ hi) = false := by simp; omega
      rw [hd]
      go_enter Try.func53, Try.ntmps53
      go_wp2
      go_ret
      exact ⟨rfl, 0, rfl⟩
  · have hd : decide (lo ≤ x ∧ x ≤ hi) = false := by simp; omega
    rw [hd]
    go_enter Try.func53, Try.ntmps53
    go_wp2
    go_ret
    exact ⟨rfl, 0, rfl⟩
theorem specIn (x lo hi : Int) (w : World) : Calls Try.prog 54 #[.int .i64 x, .int .i64 lo, .int .i64 hi] w (Gives w (.bool (decide (lo ≤ x ∧ x ≤ hi)))) := by
  by_cases h1 : lo ≤ x
  · by_cases h2 : x ≤ hi
    · have hd : decide (lo ≤ x ∧ x ≤ hi) = true := by simp; omega
      rw [hd]
      go_enter Try.func54, Try.ntmps54
      go_wp2
      go_ret
      exact ⟨rfl, 0, rfl⟩
    · have hd : decide (lo ≤ x ∧ x ≤ hi) = false := by simp; omega
      rw [hd]
      go_enter Try.func54, Try.ntmps54
      go_wp2
      go_ret
      exact ⟨rfl, 0, rfl⟩
  · have hd : decide (lo ≤ x ∧ x ≤ hi) = false := by simp; omega
    rw [hd]
    go_enter Try.func54, Try.ntmps54
    go_wp2
    go_ret
    exact ⟨rfl, 0, rfl⟩
theorem IntsA.take {fz : Bool} {lo hi : Nat} {w : World} {a : Option Addr} {n c : Nat} {xs : List Int} (h : IntsA fz lo hi w a n c xs) {j : Nat} (hj : j ≤ n) : IntsA fz lo hi w a j c (xs.take j) := by
  obtain ⟨h1, h2, h3, h4, h5, h6⟩ := h
  refine ⟨by simp; omega, by omega, h3, fun z hz => h4 z (List.mem_of_mem_take hz), fun hn => ?_, h6⟩
  obtain ⟨b, off, ha, hl, hb, hc⟩ := h5 (by omega)
  refine ⟨b, off, ha, hl, hb, fun i hi => ?_⟩
  obtain ⟨g1, g2⟩ := hc i (by omega)
  refine ⟨?_, g2⟩
  rw [g1]; simp [ix, hi]
/-- the first k numbers lie from 0 to n - 1, and no two of them are equal -/
def SetTo (xs : List Int) (n : Int) (k : Nat) : Prop := ∀ i, i < k → (0 ≤ ix xs i ∧ ix xs i ≤ n - 1) ∧ ¬ 0 ≤ findF (xs.take i) (ix xs i)
open Classical in
noncomputable def setB (xs : List Int) (n : Int) : Bool := decide (SetTo xs n xs.length)
theorem setB_true {xs : List Int} {n : Int} (h : SetTo xs n xs.length) : setB xs n = true := by simp [setB, h]
theorem setB_false {xs : List Int} {n : Int} {i : Nat} (hi : i < xs.length) (h : ¬ ((0 ≤ ix xs i ∧ ix xs i ≤ n - 1) ∧ ¬ 0 ≤ findF (xs.take i) (ix xs i))) : setB xs n = false := by
  simp only [setB, decide_eq_false_iff_not]; intro hh; exact h (hh i hi)
theorem SetTo.succ {xs : List Int} {n : Int} {k : Nat} (h : SetTo xs n k) (h1 : (0 ≤ ix xs k ∧ ix xs k ≤ n - 1) ∧ ¬ 0 ≤ findF (xs.take k) (ix xs k)) : SetTo xs n (k + 1) := by
  intro i hi
  by_cases e : i = k
  · subst e; exact h1
  · exact h i (by omega)
set_option maxHeartbeats 800000 in
theorem implIsSet {fz : Bool} {lo hi : Nat} (a : Option Addr) (n c : Nat) (xs : List Int) (v : Int) (w : World) (hI : IntsA fz lo hi w a n c xs) (hv0 : 0 ≤ v) (hv1 : v ≤ 9223372036854775807) :
    Calls Try.prog 61 #[.slice a n c, .int .i64 v] w (Gives w (.bool (setB xs v))) := by
  have hl := hI.len
  have hs := hI.small
  have hnc := hI.2.1
  have hcm := hI.2.2.1
  have HL := hid hl; clear hl
  go_enter Try.func61, Try.ntmps61
  go_wp2
  go_loopw [9] (fun i wr => ∃ k : Nat, i = .int .i64 k ∧ k ≤ n ∧ Hid (SetTo xs v k) ∧ ∃ m, wr = w.drewN m) (fun i _ => n - (intOf i).toNat)
  case atStart => exact ⟨0, rfl, by omega, hid (fun i hi => by omega), 0, rfl⟩
  case round =>
    obtain ⟨k, rfl, hk, HT, m, rfl⟩ := hrel
    by_cases hlt : k < n
    · obtain ⟨b, off, rfl, _, _, hc, _⟩ := hI.open (by omega)
      have c0 := hc k hlt
      have hJ := hI.take (j := k) (by omega)
      have HC := hid hc; clear hc
      have hx := hI.at hlt
      generalize hxe : ix xs k = x at *
      have HX := hid hxe; clear hxe
      have HJ := hid hJ; clear hJ
      go_wp2_with fail
      refine (implWithin x 0 (v - 1) _).mono ?_
      rintro e w1 ⟨rfl, m1, rfl⟩
      by_cases hw : 0 ≤ x ∧ x ≤ v - 1
      · have hd : decide (0 ≤ x ∧ x ≤ v - 1) = true := by simpa using hw
        rw [hd]
        go_wp2_with fail
        refine (implHasInt _ k c (xs.take k) x _ (HJ.out.drewN _)).mono ?_
        rintro e w2 ⟨rfl, m2, rfl⟩
        by_cases hf : 0 ≤ findF (xs.take k) x
        · have hd2 : decide (0 ≤ findF (xs.take k) x) = true := by simpa using hf
          rw [hd2]
          have hF := hid (setB_false (xs := xs) (n := v) (i := k) (by rw [HL.out]; exact hlt) (by rw [HX.out]; exact fun h => h.2 hf))
          clear hf
          go_wp2_with fail
          go_ret
          exact ⟨by rw [hF.out]; rfl, by first | exact ⟨_, rfl⟩ | exact ⟨_, dd⟩⟩
        · have hd2 : decide (0 ≤ findF (xs.take k) x) = false := by simpa using hf
          rw [hd2]
          have HT2 := hid (HT.out.succ (by rw [HX.out]; exact ⟨hw, hf⟩))
          clear hf
          go_wp2_with fail
          go_roundw
          case rel => exact ⟨k + 1, by go_num, by omega, HT2, by first | exact ⟨_, rfl⟩ | exact ⟨_, dd⟩⟩
          case measure => simp [intOf]; omega
      · have hd : decide (0 ≤ x ∧ x ≤ v - 1) = false := by simpa using hw
        rw [hd]
        have hF := hid (setB_false (xs := xs) (n := v) (i := k) (by rw [HL.out]; exact hlt) (by rw [HX.out]; exact fun h => hw h.1))
        go_wp2_with fail
        go_ret
        exact ⟨by rw [hF.out]; rfl, by first | exact ⟨_, rfl⟩ | exact ⟨_, dd⟩⟩
    · go_wp2
      go_ret
      obtain rfl : k = n := by omega
      exact ⟨by rw [setB_true (by rw [HL.out]; exact HT.out)]; rfl, by first | exact ⟨_, rfl⟩ | exact ⟨_, dd⟩⟩
/-- what IsPermutation returns -/
noncomputable def permB (xs : List Int) : Bool := decide (xs.length ≤ 5) && setB xs xs.length
end Go.Proofs.Ytalfldflnacpeaa
