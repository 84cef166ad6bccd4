/- Walks: the intersection of lists, program and reference. -/
import Derived.Test.YtkhilfgkejienaaW6
namespace Go.Proofs.Ytkhilfgkejienaa
set_option linter.unusedSimpArgs false
set_option linter.unusedVariables false
open Go.RowKit

/-- all lists are ascending, and x occurs in the lists 1 to k - 1 -/
noncomputable def isTo (xss : List (List Int)) (x : Int) : Nat → Bool
  | 0 => ascAll xss
  | k + 1 => if k = 0 then ascAll xss else isTo xss x k && decide (0 ≤ findF (rx xss k) x)
theorem isTo_one (xss : List (List Int)) (x : Int) : isTo xss x 1 = ascAll xss := by simp [isTo]
theorem isTo_succ {xss : List (List Int)} {x : Int} {k : Nat} (hk : 0 < k) : isTo xss x (k + 1) = (isTo xss x k && decide (0 ≤ findF (rx xss k) x)) := by
  simp only [isTo]; rw [if_neg (by omega)]
/-- the elements of the first list that occur in all lists -/
noncomputable def interF (xss : List (List Int)) : List Int := (rx xss 0).filter fun x => isTo xss x xss.length
noncomputable def interTo (xss : List (List Int)) (k : Nat) : List Int := ((rx xss 0).take k).filter fun x => isTo xss x xss.length
theorem isTo_no {xss : List (List Int)} (h : ascAll xss = false) (x : Int) (k : Nat) : isTo xss x k = false := by
  induction k with
  | zero => simpa [isTo] using h
  | succ k ih => simp only [isTo]; split; · exact h
                 simp [ih]
theorem interF_no {xss : List (List Int)} (h : ascAll xss = false) : interF xss = [] := by
  unfold interF; simp [isTo_no h]
theorem interTo_yes {xss : List (List Int)} {k : Nat} (hk : k < (rx xss 0).length) (h : isTo xss (ix (rx xss 0) k) xss.length = true) : interTo xss (k + 1) = interTo xss k ++ [ix (rx xss 0) k] := by
  simp only [interTo]
  rw [List.take_succ_eq_append_getElem hk, List.filter_append, ← ix_lt hk]
  simp [h]
theorem interTo_no {xss : List (List Int)} {k : Nat} (hk : k < (rx xss 0).length) (h : isTo xss (ix (rx xss 0) k) xss.length = false) : interTo xss (k + 1) = interTo xss k := by
  simp only [interTo]
  rw [List.take_succ_eq_append_getElem hk, List.filter_append, ← ix_lt hk]
  simp [h]
theorem interTo_len (xss : List (List Int)) (k : Nat) : (interTo xss k).length ≤ k := by
  have := List.length_filter_le (fun x => isTo xss x xss.length) ((rx xss 0).take k)
  have h2 := List.length_take_le k (rx xss 0)
  unfold interTo; omega
theorem interTo_end {xss : List (List Int)} {k : Nat} (hk : (rx xss 0).length ≤ k) : interTo xss k = interF xss := by
  unfold interTo interF; rw [List.take_of_length_le hk]
/-- what the program holds behind k common steps -/
noncomputable def foldC (xss : List (List Int)) (k : Nat) : List Int := (rx xss 0).filter fun x => isTo xss x (k + 1)
theorem foldC_zero {xss : List (List Int)} (h : ascAll xss = true) : foldC xss 0 = rx xss 0 := by
  unfold foldC; simp [isTo_one, h]
theorem foldC_succ (xss : List (List Int)) (k : Nat) : commonF (foldC xss k) (rx xss (k + 1)) = foldC xss (k + 1) := by
  unfold foldC commonF
  rw [List.filter_filter]
  refine List.filter_congr fun x _ => ?_
  rw [isTo_succ (k := k + 1) (by omega), Bool.and_comm]
theorem foldC_len (xss : List (List Int)) (k : Nat) : (foldC xss k).length ≤ (rx xss 0).length := List.length_filter_le _ _
theorem foldC_end {xss : List (List Int)} {k : Nat} (h : k + 1 = xss.length) : foldC xss k = interF xss := by unfold foldC interF; rw [h]

set_option maxHeartbeats 400000 in
theorem implInter0 {fz : Bool} {lo hi : Nat} (a : Option Addr) (n c : Nat) (xss : List (List Int)) (w : World) (hI : RowsA fz lo hi w a n c xss) (hE : ascAll xss = false) :
    Calls Try.prog 11 #[.slice a n c] w (GivesOwn w (interF xss)) := by
  have HE := hid hE; clear hE
  go_enter Try.func11, Try.ntmps11
  go_wp2_with fail
  refine (implAscL a n c xss w hI).mono ?_
  rintro e w1 ⟨rfl, m1, rfl⟩
  rw [HE.out]
  go_wp2
  go_ret
  exact ⟨none, 0, 0, rfl, by rw [interF_no HE.out]; exact own_nil _ _, below_drewN (Below.refl _ _) m1⟩

set_option maxHeartbeats 400000 in
theorem implInter1 {fz : Bool} {lo hi : Nat} (b off : Nat) (n c : Nat) (xss : List (List Int)) (w : World) (hI : RowsA fz lo hi w (some ⟨b, off, none⟩) n c xss) (hh : hi ≤ w.heap.size) (hr : ∀ i, (rx xss i).length ≤ 1048576)
    (hE : ascAll xss = true) (hn0 : 0 < n) (hn1 : n ≤ 1) :
    Calls Try.prog 11 #[.slice (some ⟨b, off, none⟩) n c] w (GivesOwn w (interF xss)) := by
  have hl := hI.len
  have hnc := hI.2.1
  have HL := hid hl; clear hl
  have HR := hid hr; clear hr
  have HE := hid hE; clear hE
  obtain ⟨_, _, ra, rn, rc, hc, hr0, _⟩ := hI.at hn0
  have hrn : rn ≤ 1048576 := by have h1 := HR.out 0; have h2 := hr0.len; omega
  simp only [Nat.add_zero] at hc
  have HR0 := hid hr0; clear hr0
  rcases (by omega : c = 1 ∨ ¬ c = 1) with rfl | hc1
  all_goals
    go_enter Try.func11, Try.ntmps11
    go_wp2_with fail
    refine (implAscL _ n _ xss w hI).mono ?_
    rintro e w1 ⟨rfl, m1, rfl⟩
    rw [HE.out]
    go_wp2_with fail
    refine (copyInts ra rn rc _ _ (HR0.out.drewN m1) hh hrn).mono ?_
    rintro e w2 ⟨a2, n2, c2, rfl, ho2, hb2⟩
    have hb2' : Below w.heap.size w w2 := Below.calm (below_drewN (Below.refl _ _) m1) hb2
    have hO : Own w.heap.size w2 a2 n2 c2 (foldC xss 0) := by rw [foldC_zero HE.out]; exact ho2
    have HO := hid hO; clear hO ho2 hb2
    have HB := hid hb2'; clear hb2'
    go_wp2
    go_loopw [3, 16] (fun v i wr => v = .slice a2 n2 c2 ∧ i = .int .i64 0 ∧ wr = w2) (fun _ i _ => n - (intOf i).toNat)
    case atStart => exact ⟨rfl, rfl, rfl⟩
    case round =>
      obtain ⟨rfl, rfl, rfl⟩ := hrel
      have hlast : ¬ ((n : Int) - 1 > 0) := by omega
      go_wp2
      go_ret
      exact ⟨_, _, _, rfl, by rw [← foldC_end (k := 0) (by rw [HL.out]; omega)]; exact HO.out, HB.out⟩

set_option maxHeartbeats 1000000 in
theorem implInter2 {fz : Bool} {lo hi : Nat} (b off : Nat) (n c : Nat) (xss : List (List Int)) (w : World) (hI : RowsA fz lo hi w (some ⟨b, off, none⟩) n c xss) (hh : hi ≤ w.heap.size) (hr : ∀ i, (rx xss i).length ≤ 1048576)
    (hE : ascAll xss = true) (hn1 : 2 ≤ n) :
    Calls Try.prog 11 #[.slice (some ⟨b, off, none⟩) n c] w (GivesOwn w (interF xss)) := by
  have hl := hI.len
  have hs := hI.small
  have hnc := hI.2.1
  have HL := hid hl; clear hl
  have HR := hid hr; clear hr
  have HE := hid hE; clear hE
  obtain ⟨_, _, ra, rn, rc, hc, hr0, _⟩ := hI.at (i := 0) (by omega)
  have hrn : rn ≤ 1048576 := by have h1 := HR.out 0; have h2 := hr0.len; omega
  simp only [Nat.add_zero] at hc
  have HR0 := hid hr0; clear hr0
  have hc1 : ¬ c = 1 := by omega
  go_enter Try.func11, Try.ntmps11
  go_wp2_with fail
  refine (implAscL _ n c xss w hI).mono ?_
  rintro e w1 ⟨rfl, m1, rfl⟩
  rw [HE.out]
  go_wp2_with fail
  refine (copyInts ra rn rc _ _ (HR0.out.drewN m1) hh hrn).mono ?_
  rintro e w2 ⟨a2, n2, c2, rfl, ho2, hb2⟩
  have hb2' : Below w.heap.size w w2 := Below.calm (below_drewN (Below.refl _ _) m1) hb2
  have hO : Own w.heap.size w2 a2 n2 c2 (foldC xss 0) := by rw [foldC_zero HE.out]; exact ho2
  have HO := hid hO; clear hO ho2 hb2
  have HB := hid hb2'; clear hb2'
  go_wp2
  go_loopw [3, 16] (fun v i wr => ∃ (k : Nat) (ao : Option Addr) (m co : Nat), i = .int .i64 k ∧ v = .slice ao m co ∧ k + 1 ≤ n ∧ Own w.heap.size wr ao m co (foldC xss k) ∧ Below w.heap.size w wr) (fun _ i _ => n - (intOf i).toNat)
  case atStart => exact ⟨0, a2, n2, c2, rfl, rfl, by omega, HO.out, HB.out⟩
  case round =>
    obtain ⟨k, ao, m, co, rfl, rfl, hk, hown, hbel⟩ := hrel
    have HO := hid hown; clear hown
    have HB := hid hbel; clear hbel
    by_cases hlt : k + 1 < n
    · have hIr : RowsA fz lo hi wr _ n c xss := hI.keep intsOK (Keeps.of_below HB.out hh)
      obtain ⟨_, _, ra', rn', rc', hc', hr', _⟩ := hIr.at hlt
      have hc2 : wr.cell? ⟨b, off + 1 + k, none⟩ = some (.slice ra' rn' rc') := by rw [← hc']; congr 2; omega
      have HR' := hid hr'; clear hr' hIr hc'
      go_wp2_with fail
      have hsz := HB.out.size
      refine (implCommon ao ra' m co rn' rc' _ _ wr HO.out.ints HR'.out (Nat.le_refl _) (Nat.le_trans hh hsz) (by have h1 := HO.out.len; have h2 := foldC_len xss k; have h3 := HR.out 0; omega)).mono ?_
      rintro e w3 ⟨a3, n3, c3, rfl, ho3, hb3⟩
      have HO3 := hid ho3; clear ho3
      have HB3 := hid hb3; clear hb3
      go_wp2
      go_roundw
      case rel => exact ⟨k + 1, a3, n3, c3, by go_num, rfl, by omega, by rw [← foldC_succ]; exact HO3.out.low hsz, Below.calm HB.out HB3.out⟩
      case measure => simp [intOf]; omega
    · go_wp2
      go_ret
      exact ⟨_, _, _, rfl, by rw [← foldC_end (k := k) (by rw [HL.out]; omega)]; exact HO.out, HB.out⟩

theorem implInter {fz : Bool} {lo hi : Nat} (a : Option Addr) (n c : Nat) (xss : List (List Int)) (w : World) (hI : RowsA fz lo hi w a n c xss) (hh : hi ≤ w.heap.size) (hr : ∀ i, (rx xss i).length ≤ 1048576) :
    Calls Try.prog 11 #[.slice a n c] w (GivesOwn w (interF xss)) := by
  cases e : ascAll xss with
  | false => exact implInter0 a n c xss w hI e
  | true =>
    have hn0 : 0 < n := by
      have h1 := e
      simp only [ascAll, decide_eq_true_eq] at h1
      have := hI.len; omega
    obtain ⟨b, off, rfl⟩ := hI.some hn0
    by_cases h : n ≤ 1
    · exact implInter1 b off n c xss w hI hh hr e hn0 h
    · exact implInter2 b off n c xss w hI hh hr e (by omega)
end Go.Proofs.Ytkhilfgkejienaa
