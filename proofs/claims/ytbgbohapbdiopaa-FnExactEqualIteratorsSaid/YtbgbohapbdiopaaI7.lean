/- Walks: comparing lists, rows and relations. -/
import Derived.Test.YtbgbohapbdiopaaLater
import Derived.Test.YtbgbohapbdiopaaT1
namespace Go.Proofs.Ytbgbohapbdiopaa
open Go.RowKit
theorem cmpI_self (x : Int) : cmpI x x = 0 := by unfold cmpI; rw [if_neg (by omega), if_neg (by omega)]
theorem cmpR_self (xs : List Int) : cmpR xs xs = 0 := by
  induction xs with
  | nil => rfl
  | cons x xs ih => simp [cmpR, ih]
theorem cmpR_zero {xs ys : List Int} (h : cmpR xs ys = 0) : xs = ys := by
  induction xs generalizing ys with
  | nil => cases ys with
    | nil => rfl
    | cons y ys => simp [cmpR] at h
  | cons x xs ih => cases ys with
    | nil => simp [cmpR] at h
    | cons y ys =>
      simp only [cmpR] at h
      split at h
      · next e => rw [e, ih h]
      · next e => unfold cmpI at h; split at h
                  · omega
                  · split at h <;> omega
theorem cmpR_eqL (xs ys : List Int) : (cmpR xs ys == 0) = eqL xs ys := by
  rw [Bool.eq_iff_iff]; simp only [beq_iff_eq, eqL, decide_eq_true_eq]
  exact ⟨cmpR_zero, fun h => by rw [h]; exact cmpR_self ys⟩
set_option maxHeartbeats 800000 in
theorem implSameInts {fz fz' : Bool} {lo hi lo' hi' : Nat} (a a' : Option Addr) (n c n' c' : Nat) (xs ys : List Int) (w : World) (hI : IntsA fz lo hi w a n c xs) (hJ : IntsA fz' lo' hi' w a' n' c' ys) :
    Calls Try.prog 34 #[.slice a n c, .slice a' n' c'] w (Gives w (.bool (eqL xs ys))) := by
  have hl := hI.len
  have hs := hI.small
  have hl' := hJ.len
  have hs' := hJ.small
  have HL := hid (And.intro hl hl'); clear hl hl'
  by_cases hn : n = n'
  · subst hn
    go_enter Try.func34, Try.ntmps34
    go_wp2
    go_loopw [13] (fun i wr => ∃ k : Nat, i = .int .i64 k ∧ k ≤ n ∧ Hid (∀ j, j < k → ix xs j = ix ys j) ∧ Hid (∃ m, wr = w.drewN m)) (fun i _ => n - (intOf i).toNat)
    case atStart => exact ⟨0, rfl, by omega, hid (fun i hi => by omega), hid ⟨0, rfl⟩⟩
    case round =>
      obtain ⟨k, rfl, hk, HT, HD⟩ := hrel
      by_cases hlt : k < n
      · have hIr := hI.keep (keeps_dr lo hi HD.out)
        have hJr := hJ.keep (keeps_dr lo' hi' HD.out)
        obtain ⟨b, off, rfl, _, _, hc, _⟩ := hIr.open (by omega)
        obtain ⟨b', off', rfl, _, _, hc', _⟩ := hJr.open (by omega)
        have c0 := hc k hlt
        have c1 := hc' k hlt
        have HI := hid (And.intro (And.intro hI hJ) (And.intro hIr hJr)); clear hI hJ hIr hJr hc hc'
        generalize hxe : ix xs k = x at *
        generalize hye : ix ys k = y at *
        have HX := hid (And.intro hxe hye); clear hxe hye
        by_cases he : x = y
        · have hb : (x != y) = false := by simp [he]
          have HT2 : Hid (∀ j, j < k + 1 → ix xs j = ix ys j) := hid (fun i hi => by
            by_cases e : i = k
            · subst e; rw [HX.out.1, HX.out.2]; exact he
            · exact HT.out i (by omega))
          have HE := hid he; clear he
          go_wp2
          go_quiet (fail)
          go_wp2
          go_roundw
          case rel => exact ⟨k + 1, by go_num, by omega, HT2, hid (by first | exact HD.out | exact dr_more HD.out _ | (rw [dd]; exact dr_more HD.out _) | (rw [dd, dd]; exact dr_more HD.out _) | exact ⟨_, rfl⟩ | exact ⟨_, dd⟩)⟩
          case measure => simp [intOf]; omega
        · have hb : (x != y) = true := by simp [he]
          have HF := hid (eqL_ne (xs := xs) (ys := ys) (i := k) (by rw [HX.out.1, HX.out.2]; exact he))
          have HE := hid he; clear he
          go_wp2
          go_quiet (fail)
          go_wp2
          go_ret
          exact ⟨by rw [HF.out]; rfl, (by first | exact HD.out | exact dr_more HD.out _ | (rw [dd]; exact dr_more HD.out _) | (rw [dd, dd]; exact dr_more HD.out _) | exact ⟨_, rfl⟩ | exact ⟨_, dd⟩)⟩
      · have HF := hid (eqL_true (xs := xs) (ys := ys) (by rw [HL.out.1, HL.out.2]) (by rw [HL.out.1]; intro i hi; exact HT.out i (by omega)))
        go_wp2
        go_ret
        exact ⟨by rw [HF.out]; rfl, HD.out⟩
  · have hb : ((n : Int) != (n' : Int)) = true := by rw [bne_iff_ne]; omega
    have HF := hid (eqL_len (xs := xs) (ys := ys) (by rw [HL.out.1, HL.out.2]; exact hn))
    have HN := hid hn; clear hn
    go_enter Try.func34, Try.ntmps34
    go_wp2
    go_ret
    exact ⟨by rw [HF.out]; rfl, 0, rfl⟩
set_option maxHeartbeats 800000 in
theorem implSameRows {fz fz' : Bool} {lo hi lo' hi' : Nat} (a a' : Option Addr) (n c n' c' : Nat) (xs ys : List (List Int)) (w : World) (hI : RowsA fz lo hi w a n c xs) (hJ : RowsA fz' lo' hi' w a' n' c' ys) :
    Calls Try.prog 52 #[.slice a n c, .slice a' n' c'] w (Gives w (.bool (eqLL xs ys))) := by
  have hl := hI.len
  have hs := hI.small
  have hl' := hJ.len
  have hs' := hJ.small
  have HL := hid (And.intro hl hl'); clear hl hl'
  by_cases hn : n = n'
  · subst hn
    go_enter Try.func52, Try.ntmps52
    go_wp2
    go_loopw [13] (fun i wr => ∃ k : Nat, i = .int .i64 k ∧ k ≤ n ∧ Hid (∀ j, j < k → rx xs j = rx ys j) ∧ Hid (∃ m, wr = w.drewN m)) (fun i _ => n - (intOf i).toNat)
    case atStart => exact ⟨0, rfl, by omega, hid (fun i hi => by omega), hid ⟨0, rfl⟩⟩
    case round =>
      obtain ⟨k, rfl, hk, HT, HD⟩ := hrel
      by_cases hlt : k < n
      · have hIr : RowsA fz lo hi wr a n c xs := hI.keep intsOK (keeps_dr lo hi HD.out)
        have hJr : RowsA fz' lo' hi' wr a' n c' ys := hJ.keep intsOK (keeps_dr lo' hi' HD.out)
        obtain ⟨b, off, rfl⟩ := hI.some (by omega)
        obtain ⟨_, _, ra, rn, rc, hc, hr, _⟩ := hIr.at hlt
        obtain ⟨b', off', rfl⟩ := hJ.some (by omega)
        obtain ⟨_, _, ra', rn', rc', hc', hr', _⟩ := hJr.at hlt
        obtain ⟨e, he⟩ : ∃ e, eqL (rx xs k) (rx ys k) = e := ⟨_, rfl⟩
        have HC := hid (fun m => by have := implSameInts ra ra' rn rc rn' rc' _ _ (wr.drewN m) (hr.drewN m) (hr'.drewN m); rwa [he] at this)
        have HI := hid (And.intro (And.intro hI hJ) (And.intro hIr (And.intro hJr (And.intro hr (And.intro hr' he))))); clear hI hJ hIr hJr hr hr' he
        cases e with
        | true =>
          have HT2 : Hid (∀ j, j < k + 1 → rx xs j = rx ys j) := hid (fun i hi => by
            by_cases e : i = k
            · subst e; exact eqL_yes HI.out.2.2.2.2.2
            · exact HT.out i (by omega))
          go_wp2
          go_quiet ((go_at_call 34; exact (Calls.quiet_of (HC.out _))))
          go_wp2
          go_roundw
          case rel => exact ⟨k + 1, by go_num, by omega, HT2, hid (by first | exact HD.out | exact dr_more HD.out _ | (rw [dd]; exact dr_more HD.out _) | (rw [dd, dd]; exact dr_more HD.out _) | exact ⟨_, rfl⟩ | exact ⟨_, dd⟩)⟩
          case measure => simp [intOf]; omega
        | false =>
          have HF := hid (eqLL_ne (xs := xs) (ys := ys) (i := k) (eqL_no HI.out.2.2.2.2.2))
          go_wp2
          go_quiet ((go_at_call 34; exact (Calls.quiet_of (HC.out _))))
          go_wp2
          go_ret
          exact ⟨by rw [HF.out]; rfl, (by first | exact HD.out | exact dr_more HD.out _ | (rw [dd]; exact dr_more HD.out _) | (rw [dd, dd]; exact dr_more HD.out _) | exact ⟨_, rfl⟩ | exact ⟨_, dd⟩)⟩
      · have HF := hid (eqLL_true (xs := xs) (ys := ys) (by rw [HL.out.1, HL.out.2]) (by rw [HL.out.1]; intro i hi; exact HT.out i (by omega)))
        go_wp2
        go_ret
        exact ⟨by rw [HF.out]; rfl, HD.out⟩
  · have hb : ((n : Int) != (n' : Int)) = true := by rw [bne_iff_ne]; omega
    have HF := hid (eqLL_len (xs := xs) (ys := ys) (by rw [HL.out.1, HL.out.2]; exact hn))
    have HN := hid hn; clear hn
    go_enter Try.func52, Try.ntmps52
    go_wp2
    go_ret
    exact ⟨by rw [HF.out]; rfl, 0, rfl⟩
set_option maxHeartbeats 800000 in
theorem implEqRel {fz fz' : Bool} {lo hi lo' hi' : Nat} (ar ar' : Int) (a a' : Option Addr) (n c n' c' : Nat) (rows rows' : List (List Int)) (w : World) (hI : RowsA fz lo hi w a n c rows) (hh : hi ≤ w.heap.size) (hJ : RowsA fz' lo' hi' w a' n' c' rows') (hh' : hi' ≤ w.heap.size) :
    Calls Try.prog 32 #[trieV ar a n c, trieV ar' a' n' c'] w (Leaves w (.bool (eqT ar ar' rows rows'))) := by
  by_cases he : ar = ar'
  · have hb : (ar == ar') = true := by simp [he]
    have hE : eqT ar ar' rows rows' = eqLL rows rows' := by unfold eqT eqLL; simp [he]
    rw [hE]
    have HE := hid (And.intro he hE); clear he hE
    go_enter Try.func32, Try.ntmps32
    go_wp2_with fail
    refine (implSameRows a a' n c n' c' rows rows' _ (hI.be intsOK (B := w.heap.size) (by repeat (first | assumption | exact Below.refl _ _ | refine below_drewN ?_ _ | refine Below.al ?_ (by first | exact Nat.le_refl _ | omega | (simp; done) | (simp; omega)) _ | refine Below.setCell ?_ (by first | exact Nat.le_refl _ | omega | (simp; done) | (simp; omega)) _)) hh) (hJ.be intsOK (B := w.heap.size) (by repeat (first | assumption | exact Below.refl _ _ | refine below_drewN ?_ _ | refine Below.al ?_ (by first | exact Nat.le_refl _ | omega | (simp; done) | (simp; omega)) _ | refine Below.setCell ?_ (by first | exact Nat.le_refl _ | omega | (simp; done) | (simp; omega)) _)) hh')).mono ?_
    rintro e w1 ⟨rfl, m1, rfl⟩
    go_wp2_with fail
    go_ret
    exact ⟨rfl, (by repeat (first | assumption | exact Below.refl _ _ | refine below_drewN ?_ _ | refine Below.al ?_ (by first | exact Nat.le_refl _ | omega | (simp; done) | (simp; omega)) _ | refine Below.setCell ?_ (by first | exact Nat.le_refl _ | omega | (simp; done) | (simp; omega)) _))⟩
  · have hb : (ar == ar') = false := by simp [he]
    have hE : eqT ar ar' rows rows' = false := by unfold eqT; simp [he]
    rw [hE]
    have HE := hid (And.intro he hE); clear he hE
    go_enter Try.func32, Try.ntmps32
    go_wp2_with fail
    go_ret
    exact ⟨rfl, (by repeat (first | assumption | exact Below.refl _ _ | refine below_drewN ?_ _ | refine Below.al ?_ (by first | exact Nat.le_refl _ | omega | (simp; done) | (simp; omega)) _ | refine Below.setCell ?_ (by first | exact Nat.le_refl _ | omega | (simp; done) | (simp; omega)) _))⟩
end Go.Proofs.Ytbgbohapbdiopaa
