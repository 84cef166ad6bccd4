/- Walks: comparing numbers and rows, valid values. -/
import Derived.Test.YtpamedlmbopfjaaQ1
namespace Go.Proofs.Ytpamedlmbopfjaa
set_option linter.unusedSimpArgs false
set_option linter.unusedVariables false
open Go.RowKit
/-- -1, 0 or 1 -/
def cmpI (x y : Int) : Int := if x < y then -1 else if y < x then 1 else 0
theorem implCmp (x y : Int) (w : World) : Calls Try.prog 39 #[.int .i64 x, .int .i64 y] w (Gives w (.int .i64 (cmpI x y))) := by
  rcases Int.lt_trichotomy x y with h | h | h
  · have hc : cmpI x y = -1 := by unfold cmpI; rw [if_pos h]
    rw [hc]
    go_enter Try.func39, Try.ntmps39
    go_wp2
    go_ret
    exact ⟨rfl, 0, rfl⟩
  · have hc : cmpI x y = 0 := by unfold cmpI; rw [if_neg (by omega), if_neg (by omega)]
    rw [hc]
    have h1 : ¬ x < y := by omega
    have h2 : ¬ y < x := by omega
    clear h
    go_enter Try.func39, Try.ntmps39
    go_wp2
    go_ret
    exact ⟨rfl, 0, rfl⟩
  · have hc : cmpI x y = 1 := by unfold cmpI; rw [if_neg (by omega), if_pos h]
    rw [hc]
    go_enter Try.func39, Try.ntmps39
    go_wp2
    go_ret
    exact ⟨rfl, 0, rfl⟩
/-- all of the first k values lie from 0 to 99 -/
def ValTo (xs : List Int) (k : Nat) : Prop := ∀ i, i < k → 0 ≤ ix xs i ∧ ix xs i ≤ 99
open Classical in
noncomputable def valB (xs : List Int) : Bool := decide (ValTo xs xs.length)
theorem valB_true {xs : List Int} (h : ValTo xs xs.length) : valB xs = true := by simp [valB, h]
theorem valB_false {xs : List Int} {i : Nat} (hi : i < xs.length) (h : ¬ (0 ≤ ix xs i ∧ ix xs i ≤ 99)) : valB xs = false := by
  simp only [valB, decide_eq_false_iff_not]; intro hh; exact h (hh i hi)
set_option maxHeartbeats 800000 in
theorem implVals {fz : Bool} {lo hi : Nat} (a : Option Addr) (n c : Nat) (xs : List Int) (w : World) (hI : IntsA fz lo hi w a n c xs) :
    Calls Try.prog 57 #[.slice a n c] w (Gives w (.bool (valB xs))) := by
  have hl := hI.len
  have hs := hI.small
  have HL := hid hl; clear hl
  go_enter Try.func57, Try.ntmps57
  go_wp2
  go_loopw [7] (fun i wr => ∃ k : Nat, i = .int .i64 k ∧ k ≤ n ∧ Hid (ValTo xs k) ∧ ∃ m, wr = w.drewN m) (fun i _ => n - (intOf i).toNat)
  case atStart => exact ⟨0, rfl, by omega, hid (fun i hi => by omega), 0, rfl⟩
  case round =>
    obtain ⟨k, rfl, hk, HT, m, rfl⟩ := hrel
    by_cases hlt : k < n
    · obtain ⟨b, off, rfl, _, _, hc, _⟩ := hI.open (by omega)
      have c0 := hc k hlt
      clear hc
      generalize hxe : ix xs k = x at *
      have HX := hid hxe; clear hxe
      go_wp2_with fail
      refine (implWithin x 0 99 _).mono ?_
      rintro e w1 ⟨rfl, m1, rfl⟩
      by_cases hw : 0 ≤ x ∧ x ≤ 99
      · have hd : decide (0 ≤ x ∧ x ≤ 99) = true := by simpa using hw
        rw [hd]
        have HT2 : Hid (ValTo xs (k + 1)) := hid (fun i hi => by
          by_cases e : i = k
          · subst e; rw [HX.out]; exact hw
          · exact HT.out i (by omega))
        go_wp2_with fail
        go_roundw
        case rel => exact ⟨k + 1, by go_num, by omega, HT2, by first | exact ⟨_, rfl⟩ | exact ⟨_, dd⟩⟩
        case measure => simp [intOf]; omega
      · have hd : decide (0 ≤ x ∧ x ≤ 99) = false := by simpa using hw
        rw [hd]
        have hF := hid (valB_false (xs := xs) (i := k) (by rw [HL.out]; exact hlt) (by rw [HX.out]; exact hw))
        go_wp2_with fail
        go_ret
        exact ⟨by rw [hF.out]; rfl, by first | exact ⟨_, rfl⟩ | exact ⟨_, dd⟩⟩
    · go_wp2
      go_ret
      obtain rfl : k = n := by omega
      exact ⟨by rw [valB_true (by rw [HL.out]; exact HT.out)]; rfl, by first | exact ⟨_, rfl⟩ | exact ⟨_, dd⟩⟩
/- Comparing rows: the plain law. -/
/-- rows in the order of their first difference, then of their lengths -/
def cmpR : List Int → List Int → Int
  | x :: xs, y :: ys => if x = y then cmpR xs ys else cmpI x y
  | [], [] => 0
  | [], _ :: _ => -1
  | _ :: _, [] => 1
theorem cmpR_drop {xs ys : List Int} {k : Nat} (h : ∀ i, i < k → ix xs i = ix ys i) (h1 : k ≤ xs.length) (h2 : k ≤ ys.length) : cmpR xs ys = cmpR (xs.drop k) (ys.drop k) := by
  induction k generalizing xs ys with
  | zero => rfl
  | succ k ih =>
    cases xs with
    | nil => simp at h1
    | cons x xs =>
      cases ys with
      | nil => simp at h2
      | cons y ys =>
        have h0 := h 0 (by omega)
        simp only [ix, List.getD, List.getElem?_cons_zero, Option.getD_some] at h0
        subst h0
        simp only [cmpR, if_true, List.drop_succ_cons]
        exact ih (fun i hi => by have := h (i + 1) (by omega); simpa [ix, List.getD] using this) (by simpa using h1) (by simpa using h2)
theorem cmpR_at {xs ys : List Int} {k : Nat} (h : ∀ i, i < k → ix xs i = ix ys i) (h1 : k < xs.length) (h2 : k < ys.length) (hne : ix xs k ≠ ix ys k) : cmpR xs ys = cmpI (ix xs k) (ix ys k) := by
  rw [cmpR_drop h (by omega) (by omega), List.drop_eq_getElem_cons h1, List.drop_eq_getElem_cons h2]
  rw [ix_lt h1, ix_lt h2] at hne ⊢
  simp only [cmpR, if_neg hne]
theorem cmpR_end {xs ys : List Int} {k : Nat} (h : ∀ i, i < k → ix xs i = ix ys i) (h1 : k ≤ xs.length) (h2 : k ≤ ys.length) (he : k = xs.length ∨ k = ys.length) : cmpR xs ys = cmpI xs.length ys.length := by
  rw [cmpR_drop h h1 h2]
  rcases he with e | e
  · rw [List.drop_of_length_le (by omega)]
    by_cases g : k = ys.length
    · rw [List.drop_of_length_le (by omega)]
      simp only [cmpR, cmpI]
      rw [if_neg (by omega), if_neg (by omega)]
    · rw [List.drop_eq_getElem_cons (by omega : k < ys.length)]
      simp only [cmpR, cmpI]
      rw [if_pos (by omega)]
  · rw [show ys.drop k = [] from List.drop_of_length_le (by omega)]
    by_cases g : k = xs.length
    · rw [List.drop_of_length_le (by omega)]
      simp only [cmpR, cmpI]
      rw [if_neg (by omega), if_neg (by omega)]
    · rw [List.drop_eq_getElem_cons (by omega : k < xs.length)]
      simp only [cmpR, cmpI]
      rw [if_neg (by omega), if_pos (by omega)]
end Go.Proofs.Ytpamedlmbopfjaa
