/- Walks: the measure of a list of lists, from any measure left. -/
import Derived.Test.YteccheoejmmjeaaW3
namespace Go.Proofs.Yteccheoejmmjeaa
set_option linter.unusedSimpArgs false
set_option linter.unusedVariables false
open Go.RowKit
/-- how many places a list of lists takes in the measure -/
def rowsSz (xss : List (List Int)) : Nat := xss.length + lens xss xss.length
theorem rowsSz_row {xss : List (List Int)} {B : Nat} (h : rowsSz xss ≤ B) (i : Nat) : (rx xss i).length ≤ B := by
  unfold rowsSz at h
  by_cases hi : i < xss.length
  · have := lens_row (xss := xss) hi; omega
  · have : rx xss i = [] := by simp [rx, List.getElem?_eq_none (by omega : xss.length ≤ i)]
    rw [this]; simp
set_option maxHeartbeats 400000 in
theorem szRowsG {fz : Bool} {lo hi : Nat} (a : Option Addr) (n c : Nat) (xss : List (List Int)) (left : Int) (w : World) (hI : RowsA fz lo hi w a n c xss) (h0 : 0 ≤ left) (h1 : left ≤ 1048576) :
    Calls Try.prog 22 #[.slice a n c, .int .i64 left] w (Gives w (.int .i64 (szI (rowsSz xss) left))) := by
  have hl := hI.len
  have hs := hI.small
  have HL := hid hl; clear hl
  by_cases hle : (n : Int) ≤ left
  · go_enter Try.func22, Try.ntmps22
    go_wp2
    go_loopw [1, 5] (fun l i wr => ∃ (k : Nat) (t : Int), i = .int .i64 k ∧ l = .int .i64 t ∧ k ≤ n ∧ t = left - n - lens xss k ∧ 0 ≤ t ∧ ∃ m, wr = w.drewN m) (fun _ i _ => n - (intOf i).toNat)
    case atStart => exact ⟨0, _, rfl, rfl, by omega, by simp [lens], by omega, 0, rfl⟩
    case round =>
      obtain ⟨k, t, rfl, rfl, hk2, hA, ht0, m, rfl⟩ := hrel
      have ht1 : t ≤ 1048576 := by omega
      have HA := hid hA; clear hA
      by_cases hlt : k < n
      · obtain ⟨b, off, rfl⟩ := hI.some (by omega)
        obtain ⟨_, _, ra, rn, rc, hc, hr, _⟩ := hI.at hlt
        have hrl := hr.len
        have HR := hid hrl; clear hrl
        by_cases hle2 : (rn : Int) ≤ t
        · go_wp2_with (go_at_call 36; refine (szInts ra rn rc _ t _ (hr.drewN m) ht0 ht1).mono ?_; rintro e w' ⟨rfl, m', rfl⟩; rw [szI_yes hle2])
          go_roundw
          case rel => exact ⟨k + 1, _, by go_num, rfl, by omega, by have h1 := HA.out; have h2 := HR.out; simp only [lens]; omega, by omega, by first | exact ⟨_, rfl⟩ | exact ⟨_, dd⟩⟩
          case measure => simp [intOf]; omega
        · go_wp2_with (go_at_call 36; refine (szInts ra rn rc _ t _ (hr.drewN m) ht0 ht1).mono ?_; rintro e w' ⟨rfl, m', rfl⟩; rw [szI_no hle2])
          go_ret
          exact ⟨ret_int (by
            unfold szI rowsSz
            have h1 := HA.out; have h2 := HR.out; have h3 := HL.out
            have h4 := lens_mono (xss := xss) (i := k + 1) (k := xss.length) (by omega)
            simp only [lens] at h4
            rw [if_neg (by omega)]), by first | exact ⟨_, rfl⟩ | exact ⟨_, dd⟩⟩
      · go_wp2
        go_ret
        exact ⟨ret_int (by
            unfold szI rowsSz
            have h1 := HA.out; have h3 := HL.out
            obtain rfl : k = n := by omega
            rw [h3, if_pos (by omega)]; omega), by first | exact ⟨_, rfl⟩ | exact ⟨_, dd⟩⟩
  · go_enter Try.func22, Try.ntmps22
    go_wp2
    go_ret
    exact ⟨ret_int (by unfold szI rowsSz; have h3 := HL.out; rw [if_neg (by omega)]), 0, rfl⟩
end Go.Proofs.Yteccheoejmmjeaa
