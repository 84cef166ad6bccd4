/- Walks: marking and finding marks in lists of lists whose rows lie apart. -/
import Derived.Test.YtdimcbollnggjaaSep
import Derived.Test.YtdimcbollnggjaaW1
import Derived.Test.YtdimcbollnggjaaK1
namespace Go.Proofs.Ytdimcbollnggjaa
set_option linter.unusedSimpArgs false
set_option linter.unusedVariables false
open Go.RowKit
/-- rows of numbers that lie in blocks of their own -/
def intsQ : RowP (List Int) := fun lo hi w a n c xs => IntsA true lo hi w a n c xs
theorem intsQOK : RowPOK intsQ := ⟨fun h hk => IntsA.keep h hk, fun h h1 h2 => IntsA.wide h h1 h2⟩
abbrev RowsS := SepA intsQ
theorem RowsS.rows {lo hi : Nat} {w : World} {a : Option Addr} {n c : Nat} {xss : List (List Int)} (h : RowsS lo hi w a n c xss) : RowsA true lo hi w a n c xss := SepA.sl (R := intsR) (fun {lo hi w ra rn rc x} h => ⟨ra, rn, rc, rfl, h⟩) intsOK h
/-- the marks of the rows -/
def mkRows : Int → List (List Int) → List (List Int)
  | _, [] => []
  | k, x :: xs => marks k x.length :: mkRows (k + x.length) xs
theorem mkRows_len (k : Int) (xss : List (List Int)) : (mkRows k xss).length = xss.length := by
  induction xss generalizing k with
  | nil => rfl
  | cons x xs ih => simp [mkRows, ih]
theorem lens_cons (x : List Int) (xs : List (List Int)) (k : Nat) : lens (x :: xs) (k + 1) = x.length + lens xs k := by
  induction k with
  | zero => simp [lens, rx]
  | succ k ih =>
    have h1 : lens (x :: xs) (k + 1 + 1) = lens (x :: xs) (k + 1) + (rx (x :: xs) (k + 1)).length := rfl
    have h2 : lens xs (k + 1) = lens xs k + (rx xs k).length := rfl
    have h3 : rx (x :: xs) (k + 1) = rx xs k := by simp [rx]
    rw [h1, ih, h2, h3]; omega
theorem mkRows_rx (k : Int) (xss : List (List Int)) {j : Nat} (hj : j < xss.length) : rx (mkRows k xss) j = marks (k + lens xss j) (rx xss j).length := by
  induction xss generalizing k j with
  | nil => simp at hj
  | cons x xs ih =>
    cases j with
    | zero => simp [mkRows, rx, lens]
    | succ j =>
      have h1 : rx (mkRows k (x :: xs)) (j + 1) = rx (mkRows (k + x.length) xs) j := by simp [mkRows, rx]
      have h2 : rx (x :: xs) (j + 1) = rx xs j := by simp [rx]
      rw [h1, h2, ih _ (by simpa using hj), lens_cons]
      congr 1
      simp; omega
theorem mkRows_lens (k : Int) (xss : List (List Int)) (j : Nat) : lens (mkRows k xss) j = lens xss j := by
  induction j with
  | zero => rfl
  | succ j ih =>
    simp only [lens]
    by_cases hj : j < xss.length
    · rw [ih, mkRows_rx k xss hj, marks_len]
    · have h1 : rx xss j = [] := by simp [rx, List.getElem?_eq_none (by omega : xss.length ≤ j)]
      have h2 : rx (mkRows k xss) j = [] := by simp [rx, List.getElem?_eq_none (by rw [mkRows_len]; omega : (mkRows k xss).length ≤ j)]
      rw [ih, h1, h2]
theorem mkRows_sz (k : Int) (xss : List (List Int)) : rowsSz (mkRows k xss) = rowsSz xss := by unfold rowsSz; rw [mkRows_len, mkRows_lens]
/-- the rows when the first j of them are marked -/
def mixRows (k : Int) (xss : List (List Int)) (j : Nat) : List (List Int) := (mkRows k xss).take j ++ xss.drop j
theorem mixRows_zero (k : Int) (xss : List (List Int)) : mixRows k xss 0 = xss := by simp [mixRows]
theorem mixRows_end (k : Int) (xss : List (List Int)) : mixRows k xss xss.length = mkRows k xss := by
  unfold mixRows; rw [List.drop_length, List.append_nil, ← mkRows_len k xss, List.take_length]
theorem mixRows_at (k : Int) (xss : List (List Int)) {j : Nat} (hj : j < xss.length) : (mixRows k xss j)[j]? = some (rx xss j) := by
  unfold mixRows
  rw [List.getElem?_append_right (by rw [List.length_take]; omega), List.length_take, mkRows_len]
  rw [show j - min j xss.length = 0 by omega]
  rw [List.getElem?_drop, rx_lt hj]; simp [hj]
theorem mixRows_set (k : Int) (xss : List (List Int)) {j : Nat} (hj : j < xss.length) : (mixRows k xss j).set j (marks (k + lens xss j) (rx xss j).length) = mixRows k xss (j + 1) := by
  have hm := mkRows_rx k xss hj
  have hl : (mkRows k xss).length = xss.length := mkRows_len k xss
  rw [← hm]
  apply List.ext_getElem?
  intro i
  unfold mixRows
  by_cases e : i = j
  · subst e
    rw [List.getElem?_set_self (by rw [List.length_append, List.length_take, List.length_drop]; omega)]
    rw [List.getElem?_append_left (by rw [List.length_take]; omega), List.getElem?_take_of_lt (by omega), rx_lt (by omega)]; simp [hl, hj]
  · rw [List.getElem?_set_ne (by omega)]
    by_cases h : i < j
    · rw [List.getElem?_append_left (by rw [List.length_take]; omega), List.getElem?_append_left (by rw [List.length_take]; omega), List.getElem?_take_of_lt h, List.getElem?_take_of_lt (by omega)]
    · rw [List.getElem?_append_right (by rw [List.length_take]; omega), List.getElem?_append_right (by rw [List.length_take]; omega), List.length_take, List.length_take, List.getElem?_drop, List.getElem?_drop]
      congr 1; omega
def GivesMarkS (lo hi : Nat) (w : World) (r : Int) (a : Option Addr) (n c : Nat) (yss : List (List Int)) (e : Ending) (w' : World) : Prop := e = .returned (.int .i64 r) ∧ Marked lo hi w w' ∧ RowsS lo hi w' a n c yss
set_option maxHeartbeats 1600000 in
theorem markRowsS {lo hi : Nat} (a : Option Addr) (n c : Nat) (xss : List (List Int)) (k : Int) (w : World) (hI : RowsS lo hi w a n c xss) (h0 : 0 ≤ k) (h1 : k ≤ 2097152) (hsz : rowsSz xss ≤ 1048576) :
    Calls Try.prog 11 #[.slice a n c, .int .i64 k] w (GivesMarkS lo hi w (k + lens xss n) a n c (mkRows k xss)) := by
  have hl := hI.len
  have hs := hI.small
  have hsum : lens xss xss.length ≤ 1048576 := by unfold rowsSz at hsz; omega
  have HL := hid hl; clear hl
  have HS := hid hsum; clear hsum hsz
  have HI := hid hI; clear hI
  go_enter Try.func11, Try.ntmps11
  go_wp2
  go_loopw [1, 5] (fun q i wr => ∃ (j : Nat) (t : Int), i = .int .i64 j ∧ q = .int .i64 t ∧ t = k + lens xss j ∧ j ≤ n ∧ Hid (Marked lo hi w wr ∧ RowsS lo hi wr a n c (mixRows k xss j))) (fun _ i _ => n - (intOf i).toNat)
  case atStart => exact ⟨0, _, rfl, rfl, by simp [lens], by omega, hid ⟨Marked.refl _ _ _, by rw [mixRows_zero]; exact HI.out⟩⟩
  case round =>
    obtain ⟨j, t, rfl, rfl, ht, hj, HM⟩ := hrel
    have hlj : lens xss j ≤ 1048576 := Nat.le_trans (lens_mono (by rw [HL.out]; exact hj)) HS.out
    have ht1 : 0 ≤ t := by omega
    have ht2 : t ≤ 4194304 := by omega
    have HT := hid ht; clear ht hlj
    by_cases hlt : j < n
    · obtain ⟨b, off, rfl⟩ := HI.out.addr (by omega)
      obtain ⟨s1, t1, ra, rn, rc, e1, e2, hc, hr, hput⟩ := SepA.row intsQOK HM.out.2 hlt (mixRows_at k xss (by rw [HL.out]; exact hlt))
      have hrl : (rx xss j).length = rn := IntsA.len hr
      have hrn2 : rn ≤ 1048576 := by have h2 := lens_row (xss := xss) (i := j) (k := xss.length) (by rw [HL.out]; exact hlt); have h3 := HS.out; omega
      have HR := hid (And.intro hrl (And.intro hr hput)); clear hrl hr hput
      go_wp2_with fail
      refine (markInts ra rn rc (rx xss j) t wr HR.out.2.1 ht1 ht2 hrn2).mono ?_
      rintro e w1 ⟨rfl, hm1, hi1⟩
      have HM1 := hid (And.intro (HM.out.1.trans (hm1.wide e1 e2)) (HR.out.2.2 _ _ hm1 hi1)); clear hm1 hi1
      go_wp2
      go_roundw
      case rel => exact ⟨j + 1, _, by go_num, rfl, by have h1 := HT.out; have h2 := HR.out.1; simp only [lens]; omega, by omega, hid ⟨HM1.out.1, by
        have h := HM1.out.2
        have h2 := mixRows_set k xss (j := j) (by rw [HL.out]; exact hlt)
        rw [← HT.out, HR.out.1] at h2
        rw [← h2]; exact h⟩⟩
      case measure => simp [intOf]; omega
    · go_wp2
      go_ret
      obtain rfl : j = n := by omega
      exact ⟨ret_int HT.out, HM.out.1, by have h := HM.out.2; rw [← HL.out, mixRows_end] at h; rw [HL.out] at h; exact h⟩
set_option maxHeartbeats 800000 in
theorem heldRows {fz : Bool} {lo hi : Nat} (a : Option Addr) (n c : Nat) (xss : List (List Int)) (k : Int) (w : World) (hI : RowsA fz lo hi w a n c (mkRows k xss)) (h0 : 0 ≤ k) (h1 : k ≤ 2097152) (hsz : rowsSz xss ≤ 1048576) :
    Calls Try.prog 12 #[.slice a n c, .int .i64 k] w (Gives w (.int .i64 (k + lens xss n))) := by
  have hl := hI.len
  rw [mkRows_len] at hl
  have hs := hI.small
  have hsum : lens xss xss.length ≤ 1048576 := by unfold rowsSz at hsz; omega
  have HL := hid hl; clear hl
  have HS := hid hsum; clear hsum hsz
  go_enter Try.func12, Try.ntmps12
  go_wp2
  go_loopw [1, 5] (fun q i wr => ∃ (j : Nat) (t : Int), i = .int .i64 j ∧ q = .int .i64 t ∧ t = k + lens xss j ∧ j ≤ n ∧ ∃ m, wr = w.drewN m) (fun _ i _ => n - (intOf i).toNat)
  case atStart => exact ⟨0, _, rfl, rfl, by simp [lens], by omega, 0, rfl⟩
  case round =>
    obtain ⟨j, t, rfl, rfl, ht, hj, m, rfl⟩ := hrel
    have hlj : lens xss j ≤ 1048576 := Nat.le_trans (lens_mono (by rw [HL.out]; exact hj)) HS.out
    have ht1 : 0 ≤ t := by omega
    have ht2 : t ≤ 4194304 := by omega
    by_cases hlt : j < n
    · obtain ⟨b, off, rfl⟩ := hI.some (by omega)
      obtain ⟨_, _, ra, rn, rc, hc, hr, _⟩ := hI.at hlt
      have hm := mkRows_rx k xss (j := j) (by rw [HL.out]; exact hlt)
      rw [hm, ← ht] at hr
      have hrl : (rx xss j).length = rn := by have := hr.len; rwa [marks_len] at this
      rw [hrl] at hr
      have hrn2 : rn ≤ 1048576 := by have h2 := lens_row (xss := xss) (i := j) (k := xss.length) (by rw [HL.out]; exact hlt); have h3 := HS.out; omega
      have hnn : ¬ t + (rn : Int) < 0 := by omega
      have HT := hid ht; clear ht hlj hm
      have HR := hid (And.intro hrl hr); clear hrl hr
      go_wp2_with fail
      refine (heldInts ra rn rc t _ (HR.out.2.drewN m) ht1 ht2 hrn2).mono ?_
      rintro e w1 ⟨rfl, m1, rfl⟩
      go_wp2
      go_roundw
      case rel => exact ⟨j + 1, _, by go_num, rfl, by have h1 := HT.out; have h2 := HR.out.1; simp only [lens]; omega, by omega, by first | exact ⟨_, rfl⟩ | exact ⟨_, dd⟩⟩
      case measure => simp [intOf]; omega
    · have HT := hid ht; clear ht hlj
      go_wp2
      go_ret
      obtain rfl : j = n := by omega
      exact ⟨ret_int HT.out, by first | exact ⟨_, rfl⟩ | exact ⟨_, dd⟩⟩
end Go.Proofs.Ytdimcbollnggjaa
