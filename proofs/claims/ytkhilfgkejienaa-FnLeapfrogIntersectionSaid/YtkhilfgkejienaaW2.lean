/- Walks: seeking in a list, comparing two lists, measuring and copying a list. -/
import Derived.Test.YtkhilfgkejienaaW1
namespace Go.Proofs.Ytkhilfgkejienaa
set_option linter.unusedSimpArgs false
set_option linter.unusedVariables false
open Go.RowKit

set_option maxHeartbeats 800000 in
theorem implSeek {fz : Bool} {lo hi : Nat} (a : Option Addr) (n c : Nat) (xs : List Int) (f v : Int) (w : World) (hI : IntsA fz lo hi w a n c xs) :
    Calls Try.prog 9 #[.slice a n c, .int .i64 f, .int .i64 v] w (Gives w (.int .i64 (seekF xs f v))) := by
  have hl := hI.len
  have hs := hI.small
  rcases (by omega : f < 0 ∨ (f ≤ 0 ∧ 0 ≤ f) ∨ 0 < f) with hf0 | ⟨hf0, hf1⟩ | hf0
  all_goals
    go_enter Try.func9, Try.ntmps9
    go_wp2
    go_loopw [7] (fun i wr => ∃ k : Int, i = .int .i64 k ∧ 0 ≤ k ∧ f ≤ k ∧ (∀ j : Nat, (j : Int) < k → f ≤ j → ix xs j < v) ∧ ∃ m, wr = w.drewN m) (fun i _ => (n - intOf i).toNat)
    case atStart => exact ⟨_, rfl, by omega, by omega, fun j hj hf => by omega, 0, rfl⟩
    case round =>
      obtain ⟨k, rfl, h0, hk2, hA, m, rfl⟩ := hrel
      have HA := hid hA; clear hA
      have HL := hid hl; clear hl
      by_cases hlt : k < n
      · obtain ⟨k, rfl⟩ := Int.eq_ofNat_of_zero_le h0
        obtain ⟨b, off, rfl, _, _, hc, _⟩ := hI.open (by omega)
        have c0 := hc k (by omega)
        clear hc
        go_wp2
        · go_ret
          exact ⟨ret_int (seekF_eq (by rw [HL.out]; omega) hk2 (by assumption) fun j hj hf => HA.out j (by omega) hf).symm, _, rfl⟩
        · go_roundw
          case rel => exact ⟨_, rfl, by omega, by omega, fun i hi hf => by
            by_cases e : i = k
            · subst e; assumption
            · exact HA.out i (by omega) hf, by first | exact ⟨_, rfl⟩ | exact ⟨_, dd⟩⟩
          case measure => simp [intOf]; omega
      · go_wp2
        go_ret
        exact ⟨ret_int (by rw [seekF_none (by rw [HL.out]; intro i hi hf; exact HA.out i (by omega) hf), HL.out]), _, rfl⟩

theorem seekF_ge {xs : List Int} {f v : Int} (h : (xs.length : Int) ≤ f) : seekF xs f v = xs.length := seekF_none fun i hi hf => by omega

set_option maxHeartbeats 800000 in
theorem specSeek {fz : Bool} {lo hi : Nat} (a : Option Addr) (n c : Nat) (xs : List Int) (f v : Int) (w : World) (hI : IntsA fz lo hi w a n c xs) :
    Calls Try.prog 12 #[.slice a n c, .int .i64 f, .int .i64 v] w (Gives w (.int .i64 (seekF xs f v))) := by
  have hl := hI.len
  have hs := hI.small
  rcases (by omega : f < 0 ∨ (f ≤ 0 ∧ 0 ≤ f) ∨ 0 < f) with hf0 | ⟨hf0, hf1⟩ | hf0
  all_goals
    go_enter Try.func12, Try.ntmps12
    go_wp2
    go_loopw [7] (fun i wr => ∃ k : Int, i = .int .i64 k ∧ 0 ≤ k ∧ f ≤ k ∧ (∀ j : Nat, (j : Int) < k → f ≤ j → j < n → ix xs j < v) ∧ ∃ m, wr = w.drewN m) (fun i _ => (n - intOf i).toNat)
    case atStart => exact ⟨_, rfl, by omega, by omega, fun j hj hf => by omega, 0, rfl⟩
    case round =>
      obtain ⟨k, rfl, h0, hk2, hA, m, rfl⟩ := hrel
      have HA := hid hA; clear hA
      have HL := hid hl; clear hl
      by_cases hlt : k < n
      · obtain ⟨k, rfl⟩ := Int.eq_ofNat_of_zero_le h0
        obtain ⟨b, off, rfl, _, _, hc, _⟩ := hI.open (by omega)
        have c0 := hc k (by omega)
        clear hc
        by_cases hv : ix xs k < v
        · go_wp2
          go_roundw
          case rel => exact ⟨_, rfl, by omega, by omega, fun i hi hf hn => by
            by_cases e : i = k
            · subst e; assumption
            · exact HA.out i (by omega) hf hn, by first | exact ⟨_, rfl⟩ | exact ⟨_, dd⟩⟩
          case measure => simp [intOf]; omega
        · go_wp2
          go_ret
          exact ⟨ret_int (seekF_eq (by rw [HL.out]; omega) hk2 (by omega) fun j hj hf => HA.out j (by omega) hf (by omega)).symm, _, rfl⟩
      · go_wp2
        all_goals
          go_ret
          exact ⟨ret_int (by rw [seekF_none (by rw [HL.out]; intro i hi hf; exact HA.out i (by omega) hf hi), HL.out] <;> omega), _, rfl⟩

end Go.Proofs.Ytkhilfgkejienaa
