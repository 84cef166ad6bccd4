/- The walk of the test of an order, both sides. -/
import Derived.Test.YtbjbgfeaiepejaaB4
namespace Go.Proofs.Ytbjbgfeaiepejaa
open Go.RowKit
/-- what IsValidOrder returns -/
noncomputable def ordOK (nv : Int) (xs : List AtomD) (us os : List Int) : Bool := qOK nv xs us && (decide ((os.length : Int) = nv) && setB os nv)
theorem ordOK_no {nv : Int} {xs : List AtomD} {us os : List Int} (h : qOK nv xs us = false) : ordOK nv xs us os = false := by simp [ordOK, h]
theorem ordOK_len {nv : Int} {xs : List AtomD} {us os : List Int} (h : ¬ (os.length : Int) = nv) : ordOK nv xs us os = false := by simp [ordOK, h]
theorem ordOK_set {nv : Int} {xs : List AtomD} {us os : List Int} (h1 : qOK nv xs us = true) (h : (os.length : Int) = nv) : ordOK nv xs us os = setB os nv := by simp [ordOK, h1, h]
theorem ordOK_perm {nv : Int} {xs : List AtomD} {us os : List Int} (h1 : qOK nv xs us = true) (h : (os.length : Int) = nv) : ordOK nv xs us os = permB os := by
  have h5 := (qOK_out h1).1.1.2
  have : os.length ≤ 5 := by omega
  rw [ordOK_set h1 h, permB, ← h]; simp [this]
set_option maxHeartbeats 1600000 in
theorem implOrd {fz fz' : Bool} {lo hi lo' hi' : Nat} (nv : Int) (a : Option Addr) (n c : Nat) (xs : List AtomD) (ua : Option Addr) (un uc : Nat) (us : List Int) (oa : Option Addr) (on oc : Nat) (os : List Int) (w : World)
    (hI : QueryA fz lo hi w nv a n c xs ua un uc us) (hh : hi ≤ w.heap.size) (hJ : IntsA fz' lo' hi' w oa on oc os) (hh' : hi' ≤ w.heap.size) :
    Calls Try.prog 22 #[queryV nv a n c ua un uc, .slice oa on oc] w (Leaves w (.bool (ordOK nv xs us os))) := by
  have hnv := hI.1
  have hol := hJ.len
  have hos := hJ.small
  have HI := hid hI; clear hI
  have HJ := hid hJ; clear hJ
  have HOL := hid hol; clear hol
  obtain ⟨q, hq⟩ : ∃ q, qOK nv xs us = q := ⟨_, rfl⟩
  have HQ := hid hq; clear hq
  cases q with
  | false =>
    have HF := hid (ordOK_no (os := os) HQ.out)
    go_enter Try.func22, Try.ntmps22
    go_wp2_with fail
    refine (implValidQ nv a n c xs ua un uc us _ (beQuery (B := w.heap.size) HI.out (by repeat (first | assumption | exact Below.refl _ _ | refine below_drewN ?_ _ | refine Below.al ?_ (by first | exact Nat.le_refl _ | omega | (simp; done) | (simp; omega)) _ | refine Below.setCell ?_ (by first | exact Nat.le_refl _ | omega | (simp; done) | (simp; omega)) _)) hh) (by first | exact Nat.le_refl _ | omega | (simp; done) | (simp; omega))).mono ?_
    rintro e w1 ⟨rfl, hb1⟩
    rw [HQ.out]
    have HB := hid (Below.trans (b := w.alloc (.cells #[.int .i64 nv, .slice a n c, .slice ua un uc] 42)) (B := w.heap.size) (a := w) (by repeat (first | assumption | exact Below.refl _ _ | refine below_drewN ?_ _ | refine Below.al ?_ (by first | exact Nat.le_refl _ | omega | (simp; done) | (simp; omega)) _ | refine Below.setCell ?_ (by first | exact Nat.le_refl _ | omega | (simp; done) | (simp; omega)) _)) (hb1.mono (by first | exact Nat.le_refl _ | omega | (simp; done) | (simp; omega)))); clear hb1
    go_wp2_with fail
    go_ret
    exact ⟨by rw [HF.out]; rfl, HB.out⟩
  | true =>
    go_enter Try.func22, Try.ntmps22
    go_wp2_with fail
    refine (implValidQ nv a n c xs ua un uc us _ (beQuery (B := w.heap.size) HI.out (by repeat (first | assumption | exact Below.refl _ _ | refine below_drewN ?_ _ | refine Below.al ?_ (by first | exact Nat.le_refl _ | omega | (simp; done) | (simp; omega)) _ | refine Below.setCell ?_ (by first | exact Nat.le_refl _ | omega | (simp; done) | (simp; omega)) _)) hh) (by first | exact Nat.le_refl _ | omega | (simp; done) | (simp; omega))).mono ?_
    rintro e w1 ⟨rfl, hb1⟩
    rw [HQ.out]
    have c0 : w1.cell? ⟨w.heap.size, 0, none⟩ = some (.int .i64 nv) := (by rw [(bcell hb1).1 _ _ (by first | (simp; done) | (simp; omega))]; first | (go_simp; done) | (simp [World.cell?]; done))
    have hb2 := Below.trans (b := w.alloc (.cells #[.int .i64 nv, .slice a n c, .slice ua un uc] 42)) (B := w.heap.size) (a := w) (by repeat (first | assumption | exact Below.refl _ _ | refine below_drewN ?_ _ | refine Below.al ?_ (by first | exact Nat.le_refl _ | omega | (simp; done) | (simp; omega)) _ | refine Below.setCell ?_ (by first | exact Nat.le_refl _ | omega | (simp; done) | (simp; omega)) _)) (hb1.mono (by first | exact Nat.le_refl _ | omega | (simp; done) | (simp; omega)))
    have HJ1 := hid (beInts HJ.out hb2 hh')
    have HB := hid hb2; clear hb1 hb2
    by_cases hl : (on : Int) = nv
    · have hbl : decide ((on : Int) = nv) = true := by simpa using hl
      have HE := hid (ordOK_set (os := os) HQ.out (by rw [HOL.out]; exact hl))
      have HH := hid hl; clear hl
      go_wp2_with fail
      refine (implIsSet oa on oc os nv _ HJ1.out (by have := HH.out; omega) (by unfold I64 at hnv; omega)).mono ?_
      rintro e w2 ⟨rfl, m2, rfl⟩
      go_wp2_with fail
      go_ret
      exact ⟨by rw [HE.out]; rfl, below_drewN HB.out _⟩
    · have HF := hid (ordOK_len (xs := xs) (us := us) (show ¬ (os.length : Int) = nv by rw [HOL.out]; exact hl))
      go_wp2_with fail
      go_ret
      exact ⟨by rw [HF.out]; rfl, HB.out⟩
set_option maxHeartbeats 1600000 in
theorem specOrd {fz fz' : Bool} {lo hi lo' hi' : Nat} (nv : Int) (a : Option Addr) (n c : Nat) (xs : List AtomD) (ua : Option Addr) (un uc : Nat) (us : List Int) (oa : Option Addr) (on oc : Nat) (os : List Int) (w : World)
    (hI : QueryA fz lo hi w nv a n c xs ua un uc us) (hh : hi ≤ w.heap.size) (hJ : IntsA fz' lo' hi' w oa on oc os) (hh' : hi' ≤ w.heap.size) :
    Calls Try.prog 20 #[queryV nv a n c ua un uc, .slice oa on oc] w (Leaves w (.bool (ordOK nv xs us os))) := by
  have hnv := hI.1
  have hol := hJ.len
  have hos := hJ.small
  have HI := hid hI; clear hI
  have HJ := hid hJ; clear hJ
  have HOL := hid hol; clear hol
  obtain ⟨q, hq⟩ : ∃ q, qOK nv xs us = q := ⟨_, rfl⟩
  have HQ := hid hq; clear hq
  cases q with
  | false =>
    have HF := hid (ordOK_no (os := os) HQ.out)
    go_enter Try.func20, Try.ntmps20
    go_wp2_with fail
    refine (specValidQ nv a n c xs ua un uc us _ (beQuery (B := w.heap.size) HI.out (by repeat (first | assumption | exact Below.refl _ _ | refine below_drewN ?_ _ | refine Below.al ?_ (by first | exact Nat.le_refl _ | omega | (simp; done) | (simp; omega)) _ | refine Below.setCell ?_ (by first | exact Nat.le_refl _ | omega | (simp; done) | (simp; omega)) _)) hh) (by first | exact Nat.le_refl _ | omega | (simp; done) | (simp; omega))).mono ?_
    rintro e w1 ⟨rfl, hb1⟩
    rw [HQ.out]
    have HB := hid (Below.trans (b := w.alloc (.cells #[.int .i64 nv, .slice a n c, .slice ua un uc] 42)) (B := w.heap.size) (a := w) (by repeat (first | assumption | exact Below.refl _ _ | refine below_drewN ?_ _ | refine Below.al ?_ (by first | exact Nat.le_refl _ | omega | (simp; done) | (simp; omega)) _ | refine Below.setCell ?_ (by first | exact Nat.le_refl _ | omega | (simp; done) | (simp; omega)) _)) (hb1.mono (by first | exact Nat.le_refl _ | omega | (simp; done) | (simp; omega)))); clear hb1
    go_wp2_with fail
    go_ret
    exact ⟨by rw [HF.out]; rfl, HB.out⟩
  | true =>
    go_enter Try.func20, Try.ntmps20
    go_wp2_with fail
    refine (specValidQ nv a n c xs ua un uc us _ (beQuery (B := w.heap.size) HI.out (by repeat (first | assumption | exact Below.refl _ _ | refine below_drewN ?_ _ | refine Below.al ?_ (by first | exact Nat.le_refl _ | omega | (simp; done) | (simp; omega)) _ | refine Below.setCell ?_ (by first | exact Nat.le_refl _ | omega | (simp; done) | (simp; omega)) _)) hh) (by first | exact Nat.le_refl _ | omega | (simp; done) | (simp; omega))).mono ?_
    rintro e w1 ⟨rfl, hb1⟩
    rw [HQ.out]
    have c0 : w1.cell? ⟨w.heap.size, 0, none⟩ = some (.int .i64 nv) := (by rw [(bcell hb1).1 _ _ (by first | (simp; done) | (simp; omega))]; first | (go_simp; done) | (simp [World.cell?]; done))
    have hb2 := Below.trans (b := w.alloc (.cells #[.int .i64 nv, .slice a n c, .slice ua un uc] 42)) (B := w.heap.size) (a := w) (by repeat (first | assumption | exact Below.refl _ _ | refine below_drewN ?_ _ | refine Below.al ?_ (by first | exact Nat.le_refl _ | omega | (simp; done) | (simp; omega)) _ | refine Below.setCell ?_ (by first | exact Nat.le_refl _ | omega | (simp; done) | (simp; omega)) _)) (hb1.mono (by first | exact Nat.le_refl _ | omega | (simp; done) | (simp; omega)))
    have HJ1 := hid (beInts HJ.out hb2 hh')
    have HB := hid hb2; clear hb1 hb2
    by_cases hl : (on : Int) = nv
    · have hbl : decide ((on : Int) = nv) = true := by simpa using hl
      have HE := hid (ordOK_perm (os := os) HQ.out (by rw [HOL.out]; exact hl))
      have HH := hid hl; clear hl
      go_wp2_with fail
      refine (specPerm oa on oc os _ HJ1.out).mono ?_
      rintro e w2 ⟨rfl, m2, rfl⟩
      go_wp2_with fail
      go_ret
      exact ⟨by rw [HE.out]; rfl, below_drewN HB.out _⟩
    · have HF := hid (ordOK_len (xs := xs) (us := us) (show ¬ (os.length : Int) = nv by rw [HOL.out]; exact hl))
      go_wp2_with fail
      go_ret
      exact ⟨by rw [HF.out]; rfl, HB.out⟩
end Go.Proofs.Ytbjbgfeaiepejaa
