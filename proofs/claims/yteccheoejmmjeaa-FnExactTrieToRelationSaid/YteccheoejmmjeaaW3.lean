/- Walks over lists of lists of numbers that only read. -/
import Derived.Test.YteccheoejmmjeaaW2
namespace Go.Proofs.Yteccheoejmmjeaa
set_option linter.unusedSimpArgs false
set_option linter.unusedVariables false
open Go.RowKit

/-- the sum of the lengths of the first k rows -/
def lens (xss : List (List Int)) : Nat → Nat
  | 0 => 0
  | k + 1 => lens xss k + (rx xss k).length
theorem lens_mono {xss : List (List Int)} {i k : Nat} (h : i ≤ k) : lens xss i ≤ lens xss k := by
  induction k with
  | zero => obtain rfl : i = 0 := by omega
            exact Nat.le_refl _
  | succ k ih =>
    by_cases e : i = k + 1
    · subst e; exact Nat.le_refl _
    · have := ih (by omega); simp only [lens]; omega
theorem lens_row {xss : List (List Int)} {i k : Nat} (h : i < k) : (rx xss i).length ≤ lens xss k := by
  have := lens_mono (xss := xss) (i := i + 1) (k := k) (by omega); simp only [lens] at this; omega
/-- what the measure of a list of lists leaves -/
noncomputable def szF (xss : List (List Int)) (left : Int) : Int := if (xss.length + lens xss xss.length : Nat) ≤ left then left - (xss.length + lens xss xss.length : Nat) else -1

/-- what the measure of a list leaves -/
def szI (n : Nat) (left : Int) : Int := if (n : Int) ≤ left then left - n else -1
theorem szI_yes {n : Nat} {left : Int} (h : (n : Int) ≤ left) : szI n left = left - n := if_pos h
theorem szI_no {n : Nat} {left : Int} (h : ¬ (n : Int) ≤ left) : szI n left = -1 := if_neg h
set_option maxHeartbeats 400000 in
theorem szInts {fz : Bool} {lo hi : Nat} (a : Option Addr) (n c : Nat) (xs : List Int) (left : Int) (w : World) (hI : IntsA fz lo hi w a n c xs) (h0 : 0 ≤ left) (h1 : left ≤ 1048576) :
    Calls Try.prog 36 #[.slice a n c, .int .i64 left] w (Gives w (.int .i64 (szI n left))) := by
  have hs := hI.small
  by_cases hle : (n : Int) ≤ left
  · go_enter Try.func36, Try.ntmps36
    go_wp2
    go_ret
    exact ⟨ret_int (by unfold szI; rw [if_pos (by omega)]), 0, rfl⟩
  · go_enter Try.func36, Try.ntmps36
    go_wp2
    go_ret
    exact ⟨ret_int (by unfold szI; rw [if_neg (by omega)]), 0, rfl⟩

set_option maxHeartbeats 400000 in
theorem szRows {fz : Bool} {lo hi : Nat} (a : Option Addr) (n c : Nat) (xss : List (List Int)) (w : World) (hI : RowsA fz lo hi w a n c xss) :
    Calls Try.prog 22 #[.slice a n c, .int .i64 1048576] w (Gives w (.int .i64 (szF xss 1048576))) := by
  have hl := hI.len
  have hs := hI.small
  have HL := hid hl; clear hl
  by_cases hle : n ≤ 1048576
  · go_enter Try.func22, Try.ntmps22
    go_wp2
    go_loopw [1, 5] (fun l i wr => ∃ (k : Nat) (t : Int), i = .int .i64 k ∧ l = .int .i64 t ∧ k ≤ n ∧ t = 1048576 - n - lens xss k ∧ 0 ≤ t ∧ ∃ m, wr = w.drewN m) (fun _ i _ => n - (intOf i).toNat)
    case atStart => exact ⟨0, _, rfl, rfl, by omega, by simp [lens], by omega, 0, rfl⟩
    case round =>
      obtain ⟨k, t, rfl, rfl, hk2, hA, ht0, m, rfl⟩ := hrel
      have ht1 : t ≤ 1048576 := by omega
      have HA := hid hA; clear hA
      by_cases hlt : k < n
      · obtain ⟨b, off, rfl⟩ := hI.some (by omega)
        obtain ⟨_, _, ra, rn, rc, hc, hr, _⟩ := hI.at hlt
        have hrl := hr.len
        have HR := hid hrl; clear hrl
        by_cases hle2 : (rn : Int) ≤ t
        · go_wp2_with (go_at_call 36; refine (szInts ra rn rc _ t _ (hr.drewN m) ht0 ht1).mono ?_; rintro e w' ⟨rfl, m', rfl⟩; rw [szI_yes hle2])
          go_roundw
          case rel => exact ⟨k + 1, _, by go_num, rfl, by omega, by have h1 := HA.out; have h2 := HR.out; simp only [lens]; omega, by omega, by first | exact ⟨_, rfl⟩ | exact ⟨_, dd⟩⟩
          case measure => simp [intOf]; omega
        · go_wp2_with (go_at_call 36; refine (szInts ra rn rc _ t _ (hr.drewN m) ht0 ht1).mono ?_; rintro e w' ⟨rfl, m', rfl⟩; rw [szI_no hle2])
          go_ret
          exact ⟨ret_int (by
            unfold szF
            have h1 := HA.out; have h2 := HR.out; have h3 := HL.out
            have h4 := lens_mono (xss := xss) (i := k + 1) (k := xss.length) (by omega)
            simp only [lens] at h4
            rw [if_neg (by omega)]), by first | exact ⟨_, rfl⟩ | exact ⟨_, dd⟩⟩
      · go_wp2
        go_ret
        exact ⟨ret_int (by
            unfold szF
            have h1 := HA.out; have h3 := HL.out
            obtain rfl : k = n := by omega
            rw [h3, if_pos (by omega)]; omega), by first | exact ⟨_, rfl⟩ | exact ⟨_, dd⟩⟩
  · go_enter Try.func22, Try.ntmps22
    go_wp2
    go_ret
    exact ⟨ret_int (by unfold szF; have h3 := HL.out; rw [if_neg (by omega)]), 0, rfl⟩
end Go.Proofs.Yteccheoejmmjeaa
