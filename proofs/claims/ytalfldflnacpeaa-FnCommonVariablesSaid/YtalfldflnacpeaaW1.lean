/- Walks of the functions over one or two lists of numbers that only read: what each returns. -/
import Derived.Test.YtalfldflnacpeaaBase
namespace Go.Proofs.Ytalfldflnacpeaa
set_option linter.unusedSimpArgs false
set_option linter.unusedVariables false
open Go.RowKit

/-- the first k numbers are strictly ascending -/
def AscTo (xs : List Int) (k : Nat) : Prop := ∀ i, i + 1 < k → ix xs i < ix xs (i + 1)
noncomputable def ascB (xs : List Int) : Bool := @decide (AscTo xs xs.length) (Classical.propDecidable _)
open Classical in
/-- the least i below n with p i; n if there is none -/
noncomputable def firstIx (p : Nat → Prop) : Nat → Nat
  | 0 => 0
  | n + 1 => if firstIx p n < n then firstIx p n else if p n then n else n + 1
theorem firstIx_le (p : Nat → Prop) (n : Nat) : firstIx p n ≤ n := by
  induction n with
  | zero => simp [firstIx]
  | succ n ih => simp only [firstIx]; split; · omega
                 split <;> omega
theorem firstIx_none {p : Nat → Prop} {n : Nat} (h : ∀ i, i < n → ¬ p i) : firstIx p n = n := by
  induction n with
  | zero => simp [firstIx]
  | succ n ih => simp only [firstIx]; rw [if_neg (by rw [ih fun i hi => h i (by omega)]; omega), if_neg (h n (by omega))]
theorem firstIx_eq {p : Nat → Prop} {n i : Nat} (hi : i < n) (hp : p i) (h : ∀ j, j < i → ¬ p j) : firstIx p n = i := by
  induction n with
  | zero => omega
  | succ n ih =>
    simp only [firstIx]
    by_cases e : i = n
    · subst e; rw [firstIx_none h, if_neg (by omega), if_pos hp]
    · have := ih (by omega); rw [this, if_pos (by omega)]
/-- the place of v in xs; -1 if there is none -/
noncomputable def findF (xs : List Int) (v : Int) : Int := if firstIx (fun i => ix xs i = v) xs.length < xs.length then (firstIx (fun i => ix xs i = v) xs.length : Nat) else -1
theorem findF_none {xs : List Int} {v : Int} (h : ∀ i, i < xs.length → ix xs i ≠ v) : findF xs v = -1 := by
  unfold findF; rw [firstIx_none h, if_neg (by omega)]
theorem findF_eq {xs : List Int} {v : Int} {i : Nat} (hi : i < xs.length) (hp : ix xs i = v) (h : ∀ j, j < i → ix xs j ≠ v) : findF xs v = i := by
  unfold findF; rw [firstIx_eq (p := fun i => ix xs i = v) hi hp h, if_pos hi]
/-- the first place from 'from' on whose number is at least v -/
noncomputable def seekF (xs : List Int) (from' v : Int) : Int := (firstIx (fun i => from' ≤ (i : Int) ∧ v ≤ ix xs i) xs.length : Nat)
def eqL (xs ys : List Int) : Bool := decide (xs = ys)
set_option maxHeartbeats 400000 in
theorem implIndexOf {fz : Bool} {lo hi : Nat} (a : Option Addr) (n c : Nat) (xs : List Int) (v : Int) (w : World) (h : IntsA fz lo hi w a n c xs) :
    Calls Try.prog 47 #[.slice a n c, .int .i64 v] w (Gives w (.int .i64 (findF xs v))) := by
  have hl := h.len
  have hs := h.small
  go_enter Try.func47, Try.ntmps47
  go_wp2
  go_loopw [9] (fun i wr => ∃ k : Nat, i = .int .i64 k ∧ k ≤ n ∧ (∀ j, j < k → ix xs j ≠ v) ∧ ∃ m, wr = w.drewN m) (fun i _ => n - (intOf i).toNat)
  case atStart => exact ⟨0, rfl, by omega, fun i hi => by omega, 0, rfl⟩
  case round =>
    obtain ⟨k, rfl, hk2, hA, m, rfl⟩ := hrel
    have HA := hid hA; clear hA
    have HL := hid hl; clear hl
    by_cases hlt : k < n
    · obtain ⟨b, off, rfl, _, _, hc, _⟩ := h.open (by omega)
      have c0 := hc k (by omega)
      clear hc
      by_cases he : ix xs k = v
      · have hb : (ix xs k == v) = true := by simp [he]
        have He := hid he; clear he
        go_wp2
        go_ret
        exact ⟨ret_int (findF_eq (by rw [HL.out]; exact hlt) He.out HA.out).symm, _, rfl⟩
      · have hb : (ix xs k == v) = false := by simp [he]
        go_wp2
        go_roundw
        case rel => exact ⟨k + 1, by go_num, by omega, fun i hi => by
          by_cases e : i = k
          · subst e; assumption
          · exact HA.out i (by omega), by first | exact ⟨_, rfl⟩ | exact ⟨_, dd⟩⟩
        case measure => simp [intOf]; omega
    · go_wp2
      go_ret
      exact ⟨ret_int (findF_none (by rw [HL.out]; intro i hi; exact HA.out i (by omega))).symm, _, rfl⟩

set_option maxHeartbeats 400000 in
theorem specFind {fz : Bool} {lo hi : Nat} (a : Option Addr) (n c : Nat) (xs : List Int) (v : Int) (w : World) (h : IntsA fz lo hi w a n c xs) :
    Calls Try.prog 50 #[.slice a n c, .int .i64 v] w (Gives w (.int .i64 (findF xs v))) := by
  have hl := h.len
  have hs := h.small
  go_enter Try.func50, Try.ntmps50
  go_wp2
  go_loopw [5] (fun i wr => ∃ k : Nat, i = .int .i64 k ∧ k ≤ n ∧ (∀ j, j < k → ix xs j ≠ v) ∧ ∃ m, wr = w.drewN m) (fun i _ => n - (intOf i).toNat)
  case atStart => exact ⟨0, rfl, by omega, fun i hi => by omega, 0, rfl⟩
  case round =>
    obtain ⟨k, rfl, hk2, hA, m, rfl⟩ := hrel
    have HA := hid hA; clear hA
    have HL := hid hl; clear hl
    by_cases hlt : k < n
    · obtain ⟨b, off, rfl, _, _, hc, _⟩ := h.open (by omega)
      have c0 := hc k (by omega)
      clear hc
      by_cases he : ix xs k = v
      · have hb : (ix xs k == v) = true := by simp [he]
        have He := hid he; clear he
        go_wp2
        go_ret
        exact ⟨ret_int (findF_eq (by rw [HL.out]; exact hlt) He.out HA.out).symm, _, rfl⟩
      · have hb : (ix xs k == v) = false := by simp [he]
        go_wp2
        go_roundw
        case rel => exact ⟨k + 1, by go_num, by omega, fun i hi => by
          by_cases e : i = k
          · subst e; assumption
          · exact HA.out i (by omega), by first | exact ⟨_, rfl⟩ | exact ⟨_, dd⟩⟩
        case measure => simp [intOf]; omega
    · go_wp2
      go_ret
      exact ⟨ret_int (findF_none (by rw [HL.out]; intro i hi; exact HA.out i (by omega))).symm, _, rfl⟩

theorem implHasInt {fz : Bool} {lo hi : Nat} (a : Option Addr) (n c : Nat) (xs : List Int) (v : Int) (w : World) (h : IntsA fz lo hi w a n c xs) :
    Calls Try.prog 48 #[.slice a n c, .int .i64 v] w (Gives w (.bool (decide (0 ≤ findF xs v)))) := by
  go_enter Try.func48, Try.ntmps48
  go_wp2_with (go_at_call 47; refine (implIndexOf a n c xs v w h).mono ?_; rintro e w' ⟨rfl, m, rfl⟩)
  go_ret
  exact ⟨rfl, _, rfl⟩
/- Walks: seeking in a list, comparing two lists, measuring and copying a list. -/

/- Walks over lists of lists of numbers that only read. -/

/-- the sum of the lengths of the first k rows -/
def lens (xss : List (List Int)) : Nat → Nat
  | 0 => 0
  | k + 1 => lens xss k + (rx xss k).length
/-- what the measure of a list of lists leaves -/
noncomputable def szF (xss : List (List Int)) (left : Int) : Int := if (xss.length + lens xss xss.length : Nat) ≤ left then left - (xss.length + lens xss xss.length : Nat) else -1

/-- what the measure of a list leaves -/
def szI (n : Nat) (left : Int) : Int := if (n : Int) ≤ left then left - n else -1
/- Walks: the measure of a list of lists, from any measure left. -/
/-- how many places a list of lists takes in the measure -/
def rowsSz (xss : List (List Int)) : Nat := xss.length + lens xss xss.length
end Go.Proofs.Ytalfldflnacpeaa
