/- Walks: comparing numbers and rows, valid values. -/
import Derived.Test.YteccheoejmmjeaaQ1
namespace Go.Proofs.Yteccheoejmmjeaa
set_option linter.unusedSimpArgs false
set_option linter.unusedVariables false
open Go.RowKit
/-- -1, 0 or 1 -/
def cmpI (x y : Int) : Int := if x < y then -1 else if y < x then 1 else 0
theorem implCmp (x y : Int) (w : World) : Calls Try.prog 59 #[.int .i64 x, .int .i64 y] w (Gives w (.int .i64 (cmpI x y))) := by
  rcases Int.lt_trichotomy x y with h | h | h
  · have hc : cmpI x y = -1 := by unfold cmpI; rw [if_pos h]
    rw [hc]
    go_enter Try.func59, Try.ntmps59
    go_wp2
    go_ret
    exact ⟨rfl, 0, rfl⟩
  · have hc : cmpI x y = 0 := by unfold cmpI; rw [if_neg (by omega), if_neg (by omega)]
    rw [hc]
    have h1 : ¬ x < y := by omega
    have h2 : ¬ y < x := by omega
    clear h
    go_enter Try.func59, Try.ntmps59
    go_wp2
    go_ret
    exact ⟨rfl, 0, rfl⟩
  · have hc : cmpI x y = 1 := by unfold cmpI; rw [if_neg (by omega), if_pos h]
    rw [hc]
    go_enter Try.func59, Try.ntmps59
    go_wp2
    go_ret
    exact ⟨rfl, 0, rfl⟩
/-- all of the first k values lie from 0 to 99 -/
def ValTo (xs : List Int) (k : Nat) : Prop := ∀ i, i < k → 0 ≤ ix xs i ∧ ix xs i ≤ 99
open Classical in
noncomputable def valB (xs : List Int) : Bool := decide (ValTo xs xs.length)
theorem valB_true {xs : List Int} (h : ValTo xs xs.length) : valB xs = true := by simp [valB, h]
theorem valB_false {xs : List Int} {i : Nat} (hi : i < xs.length) (h : ¬ (0 ≤ ix xs i ∧ ix xs i ≤ 99)) : valB xs = false := by
  simp only [valB, decide_eq_false_iff_not]; intro hh; exact h (hh i hi)
set_option maxHeartbeats 800000 in
theorem implVals {fz : Bool} {lo hi : Nat} (a : Option Addr) (n c : Nat) (xs : List Int) (w : World) (hI : IntsA fz lo hi w a n c xs) :
    Calls Try.prog 54 #[.slice a n c] w (Gives w (.bool (valB xs))) := by
  have hl := hI.len
  have hs := hI.small
  have HL := hid hl; clear hl
  go_enter Try.func54, Try.ntmps54
  go_wp2
  go_loopw [7] (fun i wr => ∃ k : Nat, i = .int .i64 k ∧ k ≤ n ∧ Hid (ValTo xs k) ∧ ∃ m, wr = w.drewN m) (fun i _ => n - (intOf i).toNat)
  case atStart => exact ⟨0, rfl, by omega, hid (fun i hi => by omega), 0, rfl⟩
  case round =>
    obtain ⟨k, rfl, hk, HT, m, rfl⟩ := hrel
    by_cases hlt : k < n
    · obtain ⟨b, off, rfl, _, _, hc, _⟩ := hI.open (by omega)
      have c0 := hc k hlt
      clear hc
      generalize hxe : ix xs k = x at *
      have HX := hid hxe; clear hxe
      go_wp2_with fail
      refine (implWithin x 0 99 _).mono ?_
      rintro e w1 ⟨rfl, m1, rfl⟩
      by_cases hw : 0 ≤ x ∧ x ≤ 99
      · have hd : decide (0 ≤ x ∧ x ≤ 99) = true := by simpa using hw
        rw [hd]
        have HT2 : Hid (ValTo xs (k + 1)) := hid (fun i hi => by
          by_cases e : i = k
          · subst e; rw [HX.out]; exact hw
          · exact HT.out i (by omega))
        go_wp2_with fail
        go_roundw
        case rel => exact ⟨k + 1, by go_num, by omega, HT2, by first | exact ⟨_, rfl⟩ | exact ⟨_, dd⟩⟩
        case measure => simp [intOf]; omega
      · have hd : decide (0 ≤ x ∧ x ≤ 99) = false := by simpa using hw
        rw [hd]
        have hF := hid (valB_false (xs := xs) (i := k) (by rw [HL.out]; exact hlt) (by rw [HX.out]; exact hw))
        go_wp2_with fail
        go_ret
        exact ⟨by rw [hF.out]; rfl, by first | exact ⟨_, rfl⟩ | exact ⟨_, dd⟩⟩
    · go_wp2
      go_ret
      obtain rfl : k = n := by omega
      exact ⟨by rw [valB_true (by rw [HL.out]; exact HT.out)]; rfl, by first | exact ⟨_, rfl⟩ | exact ⟨_, dd⟩⟩
end Go.Proofs.Yteccheoejmmjeaa
