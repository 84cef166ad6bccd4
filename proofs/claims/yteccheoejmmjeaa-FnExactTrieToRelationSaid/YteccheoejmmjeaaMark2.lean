/- Walks: marking every number of a list of lists. -/
import Derived.Test.YteccheoejmmjeaaMark
namespace Go.Proofs.Yteccheoejmmjeaa
set_option linter.unusedSimpArgs false
set_option linter.unusedVariables false
open Go.RowKit
theorem CellM.slice {a : Option Addr} {n c : Nat} {v : Value} (h : CellM (.slice a n c) v) : v = .slice a n c := by
  rcases h with h | ⟨_, _, h, _⟩
  · exact h
  · cases h
/-- The call returns a number; of the world only numbers in the blocks from lo on and below hi may have turned. -/
def GivesM (lo hi : Nat) (w : World) (r : Int) (e : Ending) (w' : World) : Prop := e = .returned (.int .i64 r) ∧ Marked lo hi w w'

set_option maxHeartbeats 800000 in
theorem markRows {lo hi : Nat} (a : Option Addr) (n c : Nat) (xss : List (List Int)) (k : Int) (w : World) (hI : RowsA true lo hi w a n c xss) (h0 : 0 ≤ k) (h1 : k ≤ 2097152) (hn : n ≤ 1048576) (hsum : lens xss xss.length ≤ 1048576) :
    Calls Try.prog 29 #[.slice a n c, .int .i64 k] w (GivesM lo hi w (k + lens xss n)) := by
  have hl := hI.len
  have hs := hI.small
  have HL := hid hl; clear hl
  have HS := hid hsum; clear hsum
  go_enter Try.func29, Try.ntmps29
  go_wp2
  go_loopw [1, 5] (fun q i wr => ∃ (j : Nat) (t : Int), i = .int .i64 j ∧ q = .int .i64 t ∧ t = k + lens xss j ∧ j ≤ n ∧ Marked lo hi w wr) (fun _ i _ => n - (intOf i).toNat)
  case atStart => exact ⟨0, _, rfl, rfl, by simp [lens], by omega, Marked.refl _ _ _⟩
  case round =>
    obtain ⟨j, t, rfl, rfl, ht, hj, hm⟩ := hrel
    have hlj : lens xss j ≤ 1048576 := Nat.le_trans (lens_mono (by rw [HL.out]; exact hj)) HS.out
    have ht1 : 0 ≤ t := by omega
    have ht2 : t ≤ 4194304 := by omega
    have HT := hid ht; clear ht hlj
    have HM := hid hm; clear hm
    by_cases hlt : j < n
    · obtain ⟨b, off, rfl⟩ := hI.some (by omega)
      obtain ⟨_, _, ra, rn, rc, hc, hr, _⟩ := hI.at hlt
      obtain ⟨v', hv, hcm⟩ := HM.out.cell _ _ hc
      obtain rfl := hcm.slice
      obtain ⟨ys, hy⟩ := hr.marked HM.out
      have hrn := hr.len
      have hrn2 : rn ≤ 1048576 := by have h2 := lens_row (xss := xss) (i := j) (k := xss.length) (by rw [HL.out]; exact hlt); have h3 := HS.out; omega
      have HR := hid hrn
      have HY := hid hy
      clear hc hcm hr hy hrn
      go_wp2_with fail
      refine (markInts ra rn rc ys t wr HY.out ht1 ht2 hrn2).mono ?_
      rintro e w1 ⟨rfl, hm1, _⟩
      have HM1 := hid hm1; clear hm1
      go_wp2
      go_roundw
      case rel => exact ⟨j + 1, _, by go_num, rfl, by have h1 := HT.out; have h2 := HR.out; simp only [lens]; omega, by omega, HM.out.trans HM1.out⟩
      case measure => simp [intOf]; omega
    · go_wp2
      go_ret
      obtain rfl : j = n := by omega
      exact ⟨ret_int HT.out, HM.out⟩
end Go.Proofs.Yteccheoejmmjeaa
