/- Walks over lists of lists: the shortest length, comparing, the test that all are ascending, copying. -/
import Derived.Test.YtkhilfgkejienaaW3
namespace Go.Proofs.Ytkhilfgkejienaa
set_option linter.unusedSimpArgs false
set_option linter.unusedVariables false
open Go.RowKit

/-- the least length among the first k rows; 0 if k is 0 -/
def shTo (xss : List (List Int)) : Nat → Nat
  | 0 => 0
  | k + 1 => if k = 0 ∨ (rx xss k).length < shTo xss k then (rx xss k).length else shTo xss k
theorem shTo_take {xss : List (List Int)} {k : Nat} (h : k = 0 ∨ (rx xss k).length < shTo xss k) : shTo xss (k + 1) = (rx xss k).length := by simp only [shTo]; rw [if_pos h]
theorem shTo_keep {xss : List (List Int)} {k : Nat} (h : ¬ (k = 0 ∨ (rx xss k).length < shTo xss k)) : shTo xss (k + 1) = shTo xss k := by simp only [shTo]; rw [if_neg h]
/-- the length of the shortest row -/
def shF (xss : List (List Int)) : Int := (shTo xss xss.length : Nat)

set_option maxHeartbeats 400000 in
theorem implShort {fz : Bool} {lo hi : Nat} (a : Option Addr) (n c : Nat) (xss : List (List Int)) (w : World) (hI : RowsA fz lo hi w a n c xss) :
    Calls Try.prog 13 #[.slice a n c] w (Gives w (.int .i64 (shF xss))) := by
  have hl := hI.len
  have hs := hI.small
  have HL := hid hl; clear hl
  go_enter Try.func13, Try.ntmps13
  go_wp2
  go_loopw [3, 8] (fun l i wr => ∃ k t : Nat, i = .int .i64 k ∧ l = .int .i64 t ∧ k ≤ n ∧ t = shTo xss k ∧ ∃ m, wr = w.drewN m) (fun _ i _ => n - (intOf i).toNat)
  case atStart => exact ⟨0, 0, rfl, rfl, by omega, rfl, 0, rfl⟩
  case round =>
    obtain ⟨k, t, rfl, rfl, hk2, hA, m, rfl⟩ := hrel
    have HA := hid hA; clear hA
    by_cases hlt : k < n
    · obtain ⟨b, off, rfl⟩ := hI.some (by omega)
      obtain ⟨_, _, ra, rn, rc, hc, hr, _⟩ := hI.at hlt
      have hrl := hr.len
      have HR := hid hrl; clear hrl
      clear hr
      by_cases hk0 : k = 0
      · have hb : ((k : Int) == 0) = true := by simp [hk0]
        have HK := hid hk0; clear hk0
        go_wp2
        go_roundw
        case rel => exact ⟨k + 1, _, by go_num, rfl, by omega, by rw [shTo_take (.inl HK.out)]; exact HR.out.symm, by first | exact ⟨_, rfl⟩ | exact ⟨_, dd⟩⟩
        case measure => simp [intOf]; omega
      · have hb : ((k : Int) == 0) = false := by simp [hk0]
        have HK := hid hk0; clear hk0
        by_cases hlt2 : rn < t
        · go_wp2
          go_roundw
          case rel => exact ⟨k + 1, _, by go_num, rfl, by omega, by rw [shTo_take (.inr (by have h1 := HA.out; have h2 := HR.out; omega))]; exact HR.out.symm, by first | exact ⟨_, rfl⟩ | exact ⟨_, dd⟩⟩
          case measure => simp [intOf]; omega
        · go_wp2
          go_roundw
          case rel => exact ⟨k + 1, _, by go_num, rfl, by omega, by rw [shTo_keep (fun h => h.elim (fun h => HK.out h) (fun h => by have h1 := HA.out; have h2 := HR.out; omega))]; exact HA.out, by first | exact ⟨_, rfl⟩ | exact ⟨_, dd⟩⟩
          case measure => simp [intOf]; omega
    · go_wp2
      go_ret
      exact ⟨ret_int (by
        have h1 := HA.out; have h3 := HL.out
        obtain rfl : k = n := by omega
        rw [shF, h3, h1]), by first | exact ⟨_, rfl⟩ | exact ⟨_, dd⟩⟩

set_option maxHeartbeats 400000 in
theorem specShort {fz : Bool} {lo hi : Nat} (a : Option Addr) (n c : Nat) (xss : List (List Int)) (w : World) (hI : RowsA fz lo hi w a n c xss) :
    Calls Try.prog 14 #[.slice a n c] w (Gives w (.int .i64 (shF xss))) := by
  have hl := hI.len
  have hs := hI.small
  have HL := hid hl; clear hl
  go_enter Try.func14, Try.ntmps14
  go_wp2
  go_loopw [3, 4] (fun l i wr => ∃ k t : Nat, i = .int .i64 k ∧ l = .int .i64 t ∧ k ≤ n ∧ t = shTo xss k ∧ ∃ m, wr = w.drewN m) (fun _ i _ => n - (intOf i).toNat)
  case atStart => exact ⟨0, 0, rfl, rfl, by omega, rfl, 0, rfl⟩
  case round =>
    obtain ⟨k, t, rfl, rfl, hk2, hA, m, rfl⟩ := hrel
    have HA := hid hA; clear hA
    by_cases hlt : k < n
    · obtain ⟨b, off, rfl⟩ := hI.some (by omega)
      obtain ⟨_, _, ra, rn, rc, hc, hr, _⟩ := hI.at hlt
      have hrl := hr.len
      have HR := hid hrl; clear hrl
      clear hr
      by_cases hk0 : k = 0
      · have hb : ((k : Int) == 0) = true := by simp [hk0]
        have HK := hid hk0; clear hk0
        go_wp2
        go_roundw
        case rel => exact ⟨k + 1, _, by go_num, rfl, by omega, by rw [shTo_take (.inl HK.out)]; exact HR.out.symm, by first | exact ⟨_, rfl⟩ | exact ⟨_, dd⟩⟩
        case measure => simp [intOf]; omega
      · have hb : ((k : Int) == 0) = false := by simp [hk0]
        have HK := hid hk0; clear hk0
        by_cases hlt2 : rn < t
        · go_wp2
          go_roundw
          case rel => exact ⟨k + 1, _, by go_num, rfl, by omega, by rw [shTo_take (.inr (by have h1 := HA.out; have h2 := HR.out; omega))]; exact HR.out.symm, by first | exact ⟨_, rfl⟩ | exact ⟨_, dd⟩⟩
          case measure => simp [intOf]; omega
        · go_wp2
          go_roundw
          case rel => exact ⟨k + 1, _, by go_num, rfl, by omega, by rw [shTo_keep (fun h => h.elim (fun h => HK.out h) (fun h => by have h1 := HA.out; have h2 := HR.out; omega))]; exact HA.out, by first | exact ⟨_, rfl⟩ | exact ⟨_, dd⟩⟩
          case measure => simp [intOf]; omega
    · go_wp2
      go_ret
      exact ⟨ret_int (by
        have h1 := HA.out; have h3 := HL.out
        obtain rfl : k = n := by omega
        rw [shF, h3, h1]), by first | exact ⟨_, rfl⟩ | exact ⟨_, dd⟩⟩

def eqLL (xs ys : List (List Int)) : Bool := decide (xs = ys)
theorem rx_ext {xs ys : List (List Int)} (hl : xs.length = ys.length) (h : ∀ i, i < xs.length → rx xs i = rx ys i) : xs = ys :=
  List.ext_getElem hl fun i h1 h2 => by have := h i h1; rwa [rx_lt h1, rx_lt h2] at this
theorem eqLL_len {xs ys : List (List Int)} (h : xs.length ≠ ys.length) : eqLL xs ys = false := by simp only [eqLL, decide_eq_false_iff_not]; rintro rfl; exact h rfl
theorem eqLL_ne {xs ys : List (List Int)} {i : Nat} (h : rx xs i ≠ rx ys i) : eqLL xs ys = false := by simp only [eqLL, decide_eq_false_iff_not]; rintro rfl; exact h rfl
theorem eqLL_true {xs ys : List (List Int)} (hl : xs.length = ys.length) (h : ∀ i, i < xs.length → rx xs i = rx ys i) : eqLL xs ys = true := by simp [eqLL, rx_ext hl h]
theorem eqLL_refl (xs : List (List Int)) : eqLL xs xs = true := by simp [eqLL]
theorem eqL_refl (xs : List Int) : eqL xs xs = true := by simp [eqL]
theorem eqL_yes {xs ys : List Int} (h : eqL xs ys = true) : xs = ys := by simpa [eqL] using h
theorem eqL_no {xs ys : List Int} (h : eqL xs ys = false) : xs ≠ ys := by simpa [eqL] using h

/-- all rows are ascending and there is one -/
noncomputable def ascAll (xss : List (List Int)) : Bool := @decide (0 < xss.length ∧ ∀ i, i < xss.length → ascB (rx xss i) = true) (Classical.propDecidable _)
theorem ascAll_no {xss : List (List Int)} {i : Nat} (hi : i < xss.length) (h : ascB (rx xss i) = false) : ascAll xss = false := by
  simp only [ascAll, decide_eq_false_iff_not]; rintro ⟨_, g⟩; have := g i hi; rw [h] at this; cases this
theorem ascAll_end {xss : List (List Int)} {n : Nat} (hn : xss.length = n) (h : ∀ i, i < n → ascB (rx xss i) = true) : ascAll xss = decide ((0 : Int) < n) := by
  subst hn
  rw [Bool.eq_iff_iff]; simp only [ascAll, decide_eq_true_eq]
  exact ⟨fun g => by omega, fun g => ⟨by omega, h⟩⟩

set_option maxHeartbeats 400000 in
theorem implAscL {fz : Bool} {lo hi : Nat} (a : Option Addr) (n c : Nat) (xss : List (List Int)) (w : World) (hI : RowsA fz lo hi w a n c xss) :
    Calls Try.prog 18 #[.slice a n c] w (Gives w (.bool (ascAll xss))) := by
  have hl := hI.len
  have hs := hI.small
  have HL := hid hl; clear hl
  go_enter Try.func18, Try.ntmps18
  go_wp2
  go_loopw [7] (fun i wr => ∃ k : Nat, i = .int .i64 k ∧ k ≤ n ∧ (∀ i, i < k → ascB (rx xss i) = true) ∧ ∃ m, wr = w.drewN m) (fun i _ => n - (intOf i).toNat)
  case atStart => exact ⟨0, rfl, by omega, fun i hi => by omega, 0, rfl⟩
  case round =>
    obtain ⟨k, rfl, hk2, hA, m, rfl⟩ := hrel
    have HA := hid hA; clear hA
    by_cases hlt : k < n
    · obtain ⟨b, off, rfl⟩ := hI.some (by omega)
      obtain ⟨_, _, ra, rn, rc, hc, hr, _⟩ := hI.at hlt
      obtain ⟨e, he⟩ : ∃ e, ascB (rx xss k) = e := ⟨_, rfl⟩
      have HE := hid he; clear he
      cases e with
      | true =>
        go_wp2_with (go_at_call 15; refine (implAsc ra rn rc _ _ (hr.drewN m)).mono ?_; rintro e w' ⟨rfl, m', rfl⟩; rw [HE.out])
        go_roundw
        case rel => exact ⟨k + 1, by go_num, by omega, fun i hi => by
          by_cases e : i = k
          · subst e; exact HE.out
          · exact HA.out i (by omega), by first | exact ⟨_, rfl⟩ | exact ⟨_, dd⟩⟩
        case measure => simp [intOf]; omega
      | false =>
        go_wp2_with (go_at_call 15; refine (implAsc ra rn rc _ _ (hr.drewN m)).mono ?_; rintro e w' ⟨rfl, m', rfl⟩; rw [HE.out])
        go_ret
        exact ⟨ret_bool (ascAll_no (by rw [HL.out]; exact hlt) HE.out).symm, by first | exact ⟨_, rfl⟩ | exact ⟨_, dd⟩⟩
    · have HF := hid (ascAll_end HL.out (fun i hi => HA.out i (by omega)))
      go_wp2
      go_ret
      exact ⟨by rw [HF.out]; simp, by first | exact ⟨_, rfl⟩ | exact ⟨_, dd⟩⟩

set_option maxHeartbeats 400000 in
theorem specAscL {fz : Bool} {lo hi : Nat} (a : Option Addr) (n c : Nat) (xss : List (List Int)) (w : World) (hI : RowsA fz lo hi w a n c xss) :
    Calls Try.prog 19 #[.slice a n c] w (Gives w (.bool (ascAll xss))) := by
  have hl := hI.len
  have hs := hI.small
  have HL := hid hl; clear hl
  go_enter Try.func19, Try.ntmps19
  go_wp2
  go_loopw [3] (fun i wr => ∃ k : Nat, i = .int .i64 k ∧ k ≤ n ∧ (∀ i, i < k → ascB (rx xss i) = true) ∧ ∃ m, wr = w.drewN m) (fun i _ => n - (intOf i).toNat)
  case atStart => exact ⟨0, rfl, by omega, fun i hi => by omega, 0, rfl⟩
  case round =>
    obtain ⟨k, rfl, hk2, hA, m, rfl⟩ := hrel
    have HA := hid hA; clear hA
    by_cases hlt : k < n
    · obtain ⟨b, off, rfl⟩ := hI.some (by omega)
      obtain ⟨_, _, ra, rn, rc, hc, hr, _⟩ := hI.at hlt
      obtain ⟨e, he⟩ : ∃ e, ascB (rx xss k) = e := ⟨_, rfl⟩
      have HE := hid he; clear he
      cases e with
      | true =>
        go_wp2_with (go_at_call 25; refine (specAsc ra rn rc _ _ (hr.drewN m)).mono ?_; rintro e w' ⟨rfl, m', rfl⟩; rw [HE.out])
        go_roundw
        case rel => exact ⟨k + 1, by go_num, by omega, fun i hi => by
          by_cases e : i = k
          · subst e; exact HE.out
          · exact HA.out i (by omega), by first | exact ⟨_, rfl⟩ | exact ⟨_, dd⟩⟩
        case measure => simp [intOf]; omega
      | false =>
        go_wp2_with (go_at_call 25; refine (specAsc ra rn rc _ _ (hr.drewN m)).mono ?_; rintro e w' ⟨rfl, m', rfl⟩; rw [HE.out])
        go_ret
        exact ⟨ret_bool (ascAll_no (by rw [HL.out]; exact hlt) HE.out).symm, by first | exact ⟨_, rfl⟩ | exact ⟨_, dd⟩⟩
    · have HF := hid (ascAll_end HL.out (fun i hi => HA.out i (by omega)))
      go_wp2
      go_ret
      exact ⟨by rw [HF.out]; simp, by first | exact ⟨_, rfl⟩ | exact ⟨_, dd⟩⟩
end Go.Proofs.Ytkhilfgkejienaa
