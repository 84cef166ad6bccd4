/- Walks over lists of lists: the shortest length, comparing, the test that all are ascending, copying. -/
import Derived.Test.YtdimcbollnggjaaW1
namespace Go.Proofs.Ytdimcbollnggjaa
set_option linter.unusedSimpArgs false
set_option linter.unusedVariables false
open Go.RowKit

/-- the least length among the first k rows; 0 if k is 0 -/
def shTo (xss : List (List Int)) : Nat → Nat
  | 0 => 0
  | k + 1 => if k = 0 ∨ (rx xss k).length < shTo xss k then (rx xss k).length else shTo xss k
theorem shTo_take {xss : List (List Int)} {k : Nat} (h : k = 0 ∨ (rx xss k).length < shTo xss k) : shTo xss (k + 1) = (rx xss k).length := by simp only [shTo]; rw [if_pos h]
theorem shTo_keep {xss : List (List Int)} {k : Nat} (h : ¬ (k = 0 ∨ (rx xss k).length < shTo xss k)) : shTo xss (k + 1) = shTo xss k := by simp only [shTo]; rw [if_neg h]
/-- the length of the shortest row -/
def shF (xss : List (List Int)) : Int := (shTo xss xss.length : Nat)

def eqLL (xs ys : List (List Int)) : Bool := decide (xs = ys)
theorem rx_ext {xs ys : List (List Int)} (hl : xs.length = ys.length) (h : ∀ i, i < xs.length → rx xs i = rx ys i) : xs = ys :=
  List.ext_getElem hl fun i h1 h2 => by have := h i h1; rwa [rx_lt h1, rx_lt h2] at this
theorem eqLL_len {xs ys : List (List Int)} (h : xs.length ≠ ys.length) : eqLL xs ys = false := by simp only [eqLL, decide_eq_false_iff_not]; rintro rfl; exact h rfl
theorem eqLL_ne {xs ys : List (List Int)} {i : Nat} (h : rx xs i ≠ rx ys i) : eqLL xs ys = false := by simp only [eqLL, decide_eq_false_iff_not]; rintro rfl; exact h rfl
theorem eqLL_true {xs ys : List (List Int)} (hl : xs.length = ys.length) (h : ∀ i, i < xs.length → rx xs i = rx ys i) : eqLL xs ys = true := by simp [eqLL, rx_ext hl h]
theorem eqLL_refl (xs : List (List Int)) : eqLL xs xs = true := by simp [eqLL]
theorem eqL_refl (xs : List Int) : eqL xs xs = true := by simp [eqL]
theorem eqL_yes {xs ys : List Int} (h : eqL xs ys = true) : xs = ys := by simpa [eqL] using h
theorem eqL_no {xs ys : List Int} (h : eqL xs ys = false) : xs ≠ ys := by simpa [eqL] using h

set_option maxHeartbeats 400000 in
theorem eqRows {fz fz' : Bool} {lo hi lo' hi' : Nat} (a a' : Option Addr) (n c n' c' : Nat) (xs ys : List (List Int)) (w : World) (hI : RowsA fz lo hi w a n c xs) (hJ : RowsA fz' lo' hi' w a' n' c' ys) :
    Calls Try.prog 8 #[.slice a n c, .slice a' n' c'] w (Gives w (.bool (eqLL xs ys))) := by
  have hl := hI.len
  have hs := hI.small
  have hl' := hJ.len
  have hs' := hJ.small
  have HL := hid hl; clear hl
  have HL' := hid hl'; clear hl'
  by_cases hn : n = n'
  · subst hn
    go_enter Try.func8, Try.ntmps8
    go_wp2
    go_loopw [5] (fun i wr => ∃ k : Nat, i = .int .i64 k ∧ k ≤ n ∧ (∀ j, j < k → rx xs j = rx ys j) ∧ ∃ m, wr = w.drewN m) (fun i _ => n - (intOf i).toNat)
    case atStart => exact ⟨0, rfl, by omega, fun i hi => by omega, 0, rfl⟩
    case round =>
      obtain ⟨k, rfl, hk2, hA, hD⟩ := hrel
      have HA := hid hA; clear hA
      have hIr : RowsA fz lo hi wr a n c xs := hI.keep intsOK (keeps_dr lo hi hD)
      have hJr : RowsA fz' lo' hi' wr a' n c' ys := hJ.keep intsOK (keeps_dr lo' hi' hD)
      have HD := hid hD; clear hD
      by_cases hlt : k < n
      · obtain ⟨b, off, rfl⟩ := hI.some (by omega)
        obtain ⟨_, _, ra, rn, rc, hc, hr, _⟩ := hIr.at hlt
        obtain ⟨b', off', rfl⟩ := hJ.some (by omega)
        obtain ⟨_, _, ra', rn', rc', hc', hr', _⟩ := hJr.at hlt
        have HR := hid hr; clear hr
        have HR' := hid hr'; clear hr'
        obtain ⟨e, he⟩ : ∃ e, eqL (rx xs k) (rx ys k) = e := ⟨_, rfl⟩
        have HE := hid he; clear he
        cases e with
        | true =>
          go_wp2
          go_quiet ((go_at_call 22; exact (Calls.quiet_of (eqInts ra ra' rn rc rn' rc' _ _ _ (HR.out.drewN _) (HR'.out.drewN _)))))
          rw [HE.out]
          go_wp2
          go_roundw
          case rel => exact ⟨k + 1, by go_num, by omega, fun i hi => by
            by_cases e : i = k
            · subst e; exact eqL_yes HE.out
            · exact HA.out i (by omega), dr_more HD.out _⟩
          case measure => simp [intOf]; omega
        | false =>
          go_wp2
          go_quiet ((go_at_call 22; exact (Calls.quiet_of (eqInts ra ra' rn rc rn' rc' _ _ _ (HR.out.drewN _) (HR'.out.drewN _)))))
          rw [HE.out]
          go_wp2
          go_ret
          exact ⟨ret_bool (eqLL_ne (eqL_no HE.out)).symm, dr_more HD.out _⟩
      · go_wp2
        go_ret
        exact ⟨ret_bool (eqLL_true (by rw [HL.out, HL'.out]) (by rw [HL.out]; intro i hi; exact HA.out i (by omega))).symm, HD.out⟩
  · have hb : ((n : Int) != (n' : Int)) = true := by rw [bne_iff_ne]; omega
    have Hn := hid hn; clear hn
    go_enter Try.func8, Try.ntmps8
    go_wp2
    go_ret
    exact ⟨ret_bool (eqLL_len (by rw [HL.out, HL'.out]; exact Hn.out)).symm, 0, rfl⟩

/-- all rows are ascending and there is one -/
noncomputable def ascAll (xss : List (List Int)) : Bool := @decide (0 < xss.length ∧ ∀ i, i < xss.length → ascB (rx xss i) = true) (Classical.propDecidable _)
theorem ascAll_no {xss : List (List Int)} {i : Nat} (hi : i < xss.length) (h : ascB (rx xss i) = false) : ascAll xss = false := by
  simp only [ascAll, decide_eq_false_iff_not]; rintro ⟨_, g⟩; have := g i hi; rw [h] at this; cases this
theorem ascAll_end {xss : List (List Int)} {n : Nat} (hn : xss.length = n) (h : ∀ i, i < n → ascB (rx xss i) = true) : ascAll xss = decide ((0 : Int) < n) := by
  subst hn
  rw [Bool.eq_iff_iff]; simp only [ascAll, decide_eq_true_eq]
  exact ⟨fun g => by omega, fun g => ⟨by omega, h⟩⟩

end Go.Proofs.Ytdimcbollnggjaa
