/- The leapfrog intersections of any list of lists. -/
import Derived.Test.YtkhilfgkejienaaW11
namespace Go.Proofs.Ytkhilfgkejienaa
set_option linter.unusedSimpArgs false
set_option linter.unusedVariables false
open Go.RowKit
theorem leap_len {L : List (List Int)} (hasc : ∀ k, k < L.length → AscTo (rx L k) (rx L k).length) : ∀ (f s : Nat) (p : List Nat) (top : Int) (out : List Int) (R : List Int × Nat), leapN L f s p top out = some R → LeapOK L p top → R.1.length ≤ out.length + remTo L p L.length := by
  intro f
  induction f with
  | zero => intro s p top out R h; simp [leapN] at h
  | succ f ih =>
    intro s p top out R h hok
    have hk : s % L.length < L.length := Nat.mod_lt _ hok.pos
    have hp : s % L.length < p.length := by rw [hok.len]; exact hk
    have hat := hok.at_ _ hk
    have hle := hok.le _ hk
    have hac := hasc _ hk
    rw [leapN] at h
    generalize s % L.length = k at *
    have hone := remTo_set_lt (L := L) (p := p) (v := ox p k + 1) hk hp (by omega) (by omega)
    by_cases h1 : ix (rx L k) (ox p k) = top
    · rw [if_pos h1] at h
      by_cases h2 : ox p k + 1 = (rx L k).length
      · rw [if_pos h2] at h
        obtain rfl := Option.some.inj h
        simp; omega
      · rw [if_neg h2] at h
        have hlt := hac (ox p k) (by omega)
        have := ih _ _ _ _ _ h (hok.next hk (by omega) (by omega))
        simp at this; omega
    · rw [if_neg h1] at h
      obtain ⟨q, hq, hq1, hq2, hq3⟩ := seekF_nat (rx L k) (ox p k) top
      rw [hq] at h
      simp only [Int.toNat_natCast] at h
      by_cases h2 : q = (rx L k).length
      · rw [if_pos h2] at h
        obtain rfl := Option.some.inj h
        simp
      · rw [if_neg h2] at h
        have hq4 := hq2 (by omega)
        have hgt : ox p k < q := by
          rcases Nat.lt_or_ge (ox p k) q with g | g
          · exact g
          · have e : q = ox p k := by omega
            rw [e] at hq4; omega
        have h5 := ih _ _ _ _ _ h (hok.next hk (by omega) hq4.2)
        have h6 := remTo_set_lt (L := L) (p := p) (v := q) hk hp hgt (by omega)
        omega
theorem lens_sum (xss : List (List Int)) (k : Nat) : lens xss k = ((xss.take k).map List.length).sum := by
  induction k with
  | zero => simp [lens]
  | succ k ih =>
    simp only [lens, rx, List.getD]
    by_cases h : k < xss.length
    · rw [List.take_succ_eq_append_getElem h, List.map_append, List.sum_append, ← ih]; simp [h]
    · rw [ih, List.take_of_length_le (by omega), List.take_of_length_le (by omega), List.getElem?_eq_none (by omega)]; simp
theorem ordL_sum (xss : List (List Int)) (k : Nat) : ((ordL xss k).map List.length).sum = lens xss k := by
  induction k with
  | zero => simp [ordL, ordIx, lens]
  | succ k ih =>
    rw [ordL_succ, lens, ← ih]
    generalize insK _ _ _ = j
    have : ((ordL xss k).map List.length).sum = (((ordL xss k).take j).map List.length).sum + (((ordL xss k).drop j).map List.length).sum := by
      rw [← List.sum_append, ← List.map_append, List.take_append_drop]
    simp only [List.map_append, List.sum_append, List.map_cons, List.map_nil, List.sum_cons, List.sum_nil]
    omega
theorem remTo_lens (L : List (List Int)) (p : List Nat) (k : Nat) : remTo L p k ≤ lens L k := by
  induction k with
  | zero => simp [remTo, lens]
  | succ k ih => simp only [remTo, lens]; omega
theorem leapF_len (xss : List (List Int)) : (leapF xss).1.length ≤ lens xss xss.length := by
  by_cases h : ascAll xss = true ∧ shF xss ≠ 0
  · have h1 := leapF_run h.1 h.2
    have h2 := (leap_start h.1 h.2).1
    have hasc := (ascAll_at h.1).2
    have h3 := leap_len (L := ordL xss xss.length) (fun k hk => by
      have hk' : k < xss.length := by have := ordL_len xss xss.length; omega
      rw [rx_ordL hk']; exact hasc _ (ox_bound hk')) _ _ _ _ _ _ h1 h2
    have h4 := remTo_lens (ordL xss xss.length) (leapP xss) (ordL xss xss.length).length
    have h5 := lens_sum (ordL xss xss.length) (ordL xss xss.length).length
    rw [List.take_length, ordL_sum] at h5
    simp at h3
    omega
  · rw [leapF_no h]; simp

set_option maxHeartbeats 800000 in
theorem implLeapA {fz : Bool} {lo hi : Nat} (a : Option Addr) (n c : Nat) (xss : List (List Int)) (w : World) (hI : RowsA fz lo hi w a n c xss) (hh : hi ≤ w.heap.size) (hr : ∀ i, (rx xss i).length ≤ 1048576) (hn : n ≤ 1048576) :
    Calls Try.prog 6 #[.slice a n c] w (GivesOwn2 w (leapF xss).1 (leapF xss).2) := by
  by_cases hE : ascAll xss = true
  · by_cases hS : shF xss = 0
    · have hF : leapF xss = ([], 0) := leapF_no (fun h => h.2 hS)
      rw [hF]
      go_enter Try.func6, Try.ntmps6
      go_wp2_with fail
      refine (implAscL _ n c xss w hI).mono ?_
      rintro e w1 ⟨rfl, m1, rfl⟩
      rw [hE]
      go_wp2_with fail
      refine (implShort _ n c xss _ (SlA.drewN intsOK hI m1)).mono ?_
      rintro e w2 ⟨rfl, m2, rfl⟩
      rw [hS]
      go_wp2_with fail
      go_ret2
      exact ⟨none, 0, 0, rfl, own_nil _ _, below_drewN (Below.refl _ _) _⟩
    · obtain ⟨b, off, rfl⟩ := hI.some (by have := (ascAll_at hE).1; have := hI.len; omega)
      exact implLeap b off n c xss w hI hh hr hn hE hS
  · have hF : leapF xss = ([], 0) := leapF_no (fun h => hE h.1)
    have hE' : ascAll xss = false := by simpa using hE
    rw [hF]
    go_enter Try.func6, Try.ntmps6
    go_wp2_with fail
    refine (implAscL _ n c xss w hI).mono ?_
    rintro e w1 ⟨rfl, m1, rfl⟩
    rw [hE']
    go_wp2_with fail
    go_ret2
    exact ⟨none, 0, 0, rfl, own_nil _ _, below_drewN (Below.refl _ _) _⟩

set_option maxHeartbeats 800000 in
theorem specLeapA {fz : Bool} {lo hi : Nat} (a : Option Addr) (n c : Nat) (xss : List (List Int)) (w : World) (hI : RowsA fz lo hi w a n c xss) (hh : hi ≤ w.heap.size) (hr : ∀ i, (rx xss i).length ≤ 1048576) (hn : n ≤ 1048576) :
    Calls Try.prog 7 #[.slice a n c] w (GivesOwn2 w (leapF xss).1 (leapF xss).2) := by
  by_cases hC : ascAll xss = true ∧ shF xss ≠ 0
  · obtain ⟨b, off, rfl⟩ := hI.some (by have := (ascAll_at hC.1).1; have := hI.len; omega)
    exact specLeap b off n c xss w hI hh hr hn hC.1 hC.2
  · have hF : leapF xss = ([], 0) := leapF_no hC
    rw [hF]
    go_enter Try.func7, Try.ntmps7
    go_wp2_with fail
    obtain ⟨wz, hwz⟩ : ∃ wz : World, wz = w.alloc (.cells #[] 3) := ⟨_, rfl⟩
    have hbz : Below w.heap.size w wz := by rw [hwz]; exact (Below.refl w.heap.size w).alloc (Nat.le_refl _) _
    have hoz : Own w.heap.size wz (some ⟨w.heap.size, 0, none⟩) 0 0 [] := by rw [hwz]; exact ⟨World.ownsRow_made w #[] 0 (Nat.le_refl _) (by simp [maxLen]) rfl, fun _ h => nomatch h⟩
    have hIz : RowsA fz lo hi wz a n c xss := hI.keep intsOK (Keeps.of_below hbz hh)
    rw [← hwz]; clear hwz
    refine (specAscL _ n c xss wz hIz).mono ?_
    rintro e w1 ⟨rfl, m1, rfl⟩
    by_cases hE : ascAll xss = true
    · have hS : shF xss = 0 := Decidable.byContradiction fun h => hC ⟨hE, h⟩
      rw [hE]
      go_wp2_with fail
      refine (specShort _ n c xss _ (SlA.drewN intsOK hIz m1)).mono ?_
      rintro e w2 ⟨rfl, m2, rfl⟩
      rw [hS]
      go_wp2_with fail
      go_ret2
      exact ⟨_, _, _, rfl, hoz.drewN _, below_drewN hbz _⟩
    · have hE' : ascAll xss = false := by simpa using hE
      rw [hE']
      go_wp2_with fail
      go_ret2
      exact ⟨_, _, _, rfl, hoz.drewN _, below_drewN hbz _⟩
end Go.Proofs.Ytkhilfgkejienaa
