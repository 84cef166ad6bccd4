/- Walks: valid lists of rational numbers, valid matrices, valid linear programs, both sides. -/
import Derived.Test.YtgannpmngkgejaaR8
import Derived.Test.YtgannpmngkgejaaR5
namespace Go.Proofs.Ytgannpmngkgejaa
set_option linter.unusedSimpArgs false
set_option linter.unusedVariables false
open Go.RowKit
/-- all numbers of a list are valid -/
def allV (xs : List RatD) : Bool := decide (∀ i, i < xs.length → ratOK (qx xs i).num (qx xs i).den = true)
theorem allV_true {xs : List RatD} (h : ∀ i, i < xs.length → ratOK (qx xs i).num (qx xs i).den = true) : allV xs = true := by simpa [allV] using h
theorem allV_false {xs : List RatD} {i : Nat} (hi : i < xs.length) (h : ratOK (qx xs i).num (qx xs i).den = false) : allV xs = false := by
  simp only [allV, decide_eq_false_iff_not]; intro hh; rw [hh i hi] at h; cases h
theorem allV_out {xs : List RatD} (h : allV xs = true) {i : Nat} (hi : i < xs.length) : ratOK (qx xs i).num (qx xs i).den = true := by
  simp only [allV, decide_eq_true_eq] at h; exact h i hi
/-- all rows of a matrix are valid and have m numbers -/
def matB (xss : List (List RatD)) (m : Nat) : Bool := decide (∀ i, i < xss.length → (mx xss i).length = m ∧ allV (mx xss i) = true)
theorem matB_true {xss : List (List RatD)} {m : Nat} (h : ∀ i, i < xss.length → (mx xss i).length = m ∧ allV (mx xss i) = true) : matB xss m = true := by simpa [matB] using h
theorem matB_false {xss : List (List RatD)} {m i : Nat} (hi : i < xss.length) (h : ¬ ((mx xss i).length = m ∧ allV (mx xss i) = true)) : matB xss m = false := by
  simp only [matB, decide_eq_false_iff_not]; intro hh; exact h (hh i hi)
theorem matB_out {xss : List (List RatD)} {m : Nat} (h : matB xss m = true) {i : Nat} (hi : i < xss.length) : (mx xss i).length = m ∧ allV (mx xss i) = true := by
  simp only [matB, decide_eq_true_eq] at h; exact h i hi
set_option maxHeartbeats 1600000 in
theorem implAllValid {fz : Bool} {lo hi : Nat} (a : Option Addr) (n c : Nat) (xs : List RatD) (w : World) (hI : RatsA fz lo hi w a n c xs) (hh : hi ≤ w.heap.size) :
    Calls Try.prog 39 #[.slice a n c] w (Leaves w (.bool (allV xs))) := by
  have hl := hI.len
  have hs := hI.small
  have HL := hid hl; clear hl
  go_enter Try.func39, Try.ntmps39
  go_wp2_with fail
  go_loopw [7] (fun i wr => ∃ k : Nat, i = .int .i64 k ∧ k ≤ n ∧ Hid (∀ i, i < k → ratOK (qx xs i).num (qx xs i).den = true) ∧ Hid (Below w.heap.size w wr)) (fun i _ => n - (intOf i).toNat)
  case atStart => exact ⟨0, rfl, by omega, hid (fun i hi => by omega), hid (Below.refl _ _)⟩
  case round =>
    obtain ⟨k, rfl, hk, HA, HB⟩ := hrel
    by_cases hlt : k < n
    · have hzr := HB.out.size
      have hIr := beRats hI HB.out hh
      obtain ⟨b, off, rfl⟩ := ratsSome hIr (by omega)
      obtain ⟨g1, g2, i1, i2, d0, d1, _⟩ := ratsAt hIr hlt
      have HI := hid (And.intro hIr (And.intro i1 i2)); clear hIr i1 i2
      obtain ⟨ok, hok⟩ : ∃ ok, ratOK (qx xs k).num (qx xs k).den = ok := ⟨_, rfl⟩
      have HOK := hid hok; clear hok
      cases ok with
      | true =>
        go_wp2_with fail
        refine (implValidRat (qx xs k).num (qx xs k).den _ HI.out.2.1 HI.out.2.2).mono ?_
        rintro e w1 ⟨rfl, hb1⟩
        rw [HOK.out]
        have hb2 : Below w.heap.size w w1 := Below.trans (by have hq := HB.out; exact (by repeat (first | assumption | exact Below.refl _ _ | refine below_drewN ?_ _ | refine below_drew1 ?_ | refine Below.al ?_ (by first | exact Nat.le_refl _ | omega | (simp; done) | (simp; omega)) _ | refine Below.setCell ?_ (by first | exact Nat.le_refl _ | omega | (simp; done) | (simp; omega)) _))) (hb1.mono (by first | exact Nat.le_refl _ | omega | (simp; done) | (simp; omega)))
        have HB2 := hid hb2; clear hb1 hb2
        go_wp2_with fail
        go_roundw
        case rel => exact ⟨k + 1, by go_num, by omega, hid (fun i hi => by
          by_cases e : i = k
          · subst e; exact HOK.out
          · exact HA.out i (by omega)), HB2⟩
        case measure => simp [intOf]; omega
      | false =>
        have HF := hid (allV_false (xs := xs) (i := k) (by rw [HL.out]; exact hlt) HOK.out)
        go_wp2_with fail
        refine (implValidRat (qx xs k).num (qx xs k).den _ HI.out.2.1 HI.out.2.2).mono ?_
        rintro e w1 ⟨rfl, hb1⟩
        rw [HOK.out]
        have hb2 : Below w.heap.size w w1 := Below.trans (by have hq := HB.out; exact (by repeat (first | assumption | exact Below.refl _ _ | refine below_drewN ?_ _ | refine below_drew1 ?_ | refine Below.al ?_ (by first | exact Nat.le_refl _ | omega | (simp; done) | (simp; omega)) _ | refine Below.setCell ?_ (by first | exact Nat.le_refl _ | omega | (simp; done) | (simp; omega)) _))) (hb1.mono (by first | exact Nat.le_refl _ | omega | (simp; done) | (simp; omega)))
        have HB2 := hid hb2; clear hb1 hb2
        go_wp2_with fail
        go_ret
        exact ⟨by rw [HF.out]; rfl, HB2.out⟩
    · go_wp2_with fail
      go_ret
      obtain rfl : k = n := by omega
      exact ⟨by rw [allV_true (by rw [HL.out]; exact HA.out)]; rfl, HB.out⟩
/-- what the reference's test of a matrix returns -/
def sqB (xss : List (List RatD)) (n m : Nat) : Bool := decide (xss.length = n) && matB xss m
theorem sqB_no {xss : List (List RatD)} {n m : Nat} (h : matB xss m = false) : sqB xss n m = false := by simp [sqB, h]
theorem sqB_yes {xss : List (List RatD)} {n m : Nat} (h : matB xss m = true) : sqB xss n m = decide (xss.length = n) := by simp [sqB, h]
set_option maxHeartbeats 3200000 in
theorem specSquare {fz : Bool} {lo hi : Nat} (a : Option Addr) (nn c : Nat) (xss : List (List RatD)) (n m : Nat) (w : World) (hI : MatA fz lo hi w a nn c xss) (hh : hi ≤ w.heap.size) (hn : n ≤ 9223372036854775807) (hm : m ≤ 9223372036854775807) :
    Calls Try.prog 37 #[.slice a nn c, .int .i64 n, .int .i64 m] w (Leaves w (.bool (sqB xss n m))) := by
  have hl := hI.len
  have hs := hI.small
  have HL := hid hl; clear hl
  go_enter Try.func37, Try.ntmps37
  go_wp2_with fail
  go_loopw [7, 8] (fun i _ wr => ∃ k : Nat, i = .int .i64 k ∧ k ≤ nn ∧ Hid (∀ i, i < k → (mx xss i).length = m ∧ allV (mx xss i) = true) ∧ Hid (Below w.heap.size w wr)) (fun i _ _ => nn - (intOf i).toNat)
  case atStart => exact ⟨0, rfl, by omega, hid (fun i hi => by omega), hid (Below.refl _ _)⟩
  case round =>
    obtain ⟨k, rfl, hk, HA, HB⟩ := hrel
    by_cases hlt : k < nn
    · have hzr := HB.out.size
      have hIr := beMat hI HB.out hh
      obtain ⟨b, off, rfl⟩ := matSome hIr (by omega)
      obtain ⟨g1, g2, ra, rn, rc, d0, hr, _⟩ := matAt hIr hlt
      have hrl := hr.len
      have hrs := hr.small
      have HRL := hid hrl; clear hrl
      have HI := hid (And.intro hI (And.intro hIr hr)); clear hI hIr hr
      by_cases hrm : rn = m
      · subst hrm
        have hne : ((rn : Int) != (rn : Int)) = false := by simp
        obtain ⟨wo, hwo⟩ : ∃ wo : World, wo = wr := ⟨_, rfl⟩
        rw [← hwo] at HB hzr HI d0 ⊢
        clear hwo
        go_wp2_with fail
        go_loopw [8] (fun j wr => ∃ q : Nat, j = .int .i64 q ∧ q ≤ rn ∧ Hid (∀ i, i < q → ratOK (qx (mx xss k) i).num (qx (mx xss k) i).den = true) ∧ Hid (Below wo.heap.size wo wr)) (fun j _ => rn - (intOf j).toNat)
        case atStart => exact ⟨0, rfl, by omega, hid (fun i hi => by omega), hid (Below.refl _ _)⟩
        case round =>
          obtain ⟨q, rfl, hq, HQ, HBQ⟩ := hrel
          by_cases hqlt : q < rn
          · have hzq := HBQ.out.size
            have hrq := beRats HI.out.2.2 HBQ.out (by omega)
            obtain ⟨rb, roff, rfl⟩ := ratsSome hrq (by omega)
            obtain ⟨_, _, i1, i2, e0, e1, _⟩ := ratsAt hrq hqlt
            have d0q : wr.cell? ⟨b, off + k, none⟩ = some (.slice (some ⟨rb, roff, none⟩) rn rc) := by rw [(bcell HBQ.out).1 _ _ (by omega)]; exact d0
            have HI2 := hid (And.intro hrq (And.intro i1 i2)); clear hrq i1 i2
            obtain ⟨ok, hok⟩ : ∃ ok, ratOK (qx (mx xss k) q).num (qx (mx xss k) q).den = ok := ⟨_, rfl⟩
            have HOK := hid hok; clear hok
            cases ok with
            | true =>
              go_wp2_with fail
              refine (specValidRat (qx (mx xss k) q).num (qx (mx xss k) q).den _ HI2.out.2.1 HI2.out.2.2).mono ?_
              rintro e w1 ⟨rfl, hb1⟩
              rw [HOK.out]
              have hb2 : Below wo.heap.size wo w1 := Below.trans (by have hq := HBQ.out; exact (by repeat (first | assumption | exact Below.refl _ _ | refine below_drewN ?_ _ | refine below_drew1 ?_ | refine Below.al ?_ (by first | exact Nat.le_refl _ | omega | (simp; done) | (simp; omega)) _ | refine Below.setCell ?_ (by first | exact Nat.le_refl _ | omega | (simp; done) | (simp; omega)) _))) (hb1.mono (by first | exact Nat.le_refl _ | omega | (simp; done) | (simp; omega)))
              have HB2 := hid hb2; clear hb1 hb2
              go_wp2_with fail
              go_roundw
              case rel => exact ⟨q + 1, by go_num, by omega, hid (fun i hi => by
                by_cases e : i = q
                · subst e; exact HOK.out
                · exact HQ.out i (by omega)), HB2⟩
              case measure => simp [intOf]; omega
            | false =>
              have HV := hid (allV_false (xs := mx xss k) (i := q) (by rw [HRL.out]; exact hqlt) HOK.out)
              have HF := hid (sqB_no (n := n) (matB_false (xss := xss) (m := rn) (i := k) (by rw [HL.out]; exact hlt) (by rw [HV.out]; simp)))
              go_wp2_with fail
              refine (specValidRat (qx (mx xss k) q).num (qx (mx xss k) q).den _ HI2.out.2.1 HI2.out.2.2).mono ?_
              rintro e w1 ⟨rfl, hb1⟩
              rw [HOK.out]
              have hb2 : Below wo.heap.size wo w1 := Below.trans (by have hq := HBQ.out; exact (by repeat (first | assumption | exact Below.refl _ _ | refine below_drewN ?_ _ | refine below_drew1 ?_ | refine Below.al ?_ (by first | exact Nat.le_refl _ | omega | (simp; done) | (simp; omega)) _ | refine Below.setCell ?_ (by first | exact Nat.le_refl _ | omega | (simp; done) | (simp; omega)) _))) (hb1.mono (by first | exact Nat.le_refl _ | omega | (simp; done) | (simp; omega)))
              have HB2 := hid (Below.calm HB.out hb2); clear hb1 hb2
              go_wp2_with fail
              go_ret
              exact ⟨by rw [HF.out]; rfl, HB2.out⟩
          · have HV := hid (allV_true (xs := mx xss k) (by rw [HRL.out]; intro i hi; exact HQ.out i (by omega)))
            have HB2 := hid (Below.calm HB.out HBQ.out)
            go_wp2_with fail
            go_roundw
            case rel => exact ⟨k + 1, by go_num, by omega, hid (fun i hi => by
              by_cases e : i = k
              · subst e; exact ⟨HRL.out, HV.out⟩
              · exact HA.out i (by omega)), HB2⟩
            case measure => simp [intOf]; omega
      · have hne : ((rn : Int) != (m : Int)) = true := by rw [bne_iff_ne]; omega
        have HF := hid (sqB_no (n := n) (matB_false (xss := xss) (m := m) (i := k) (by rw [HL.out]; exact hlt) (by rw [HRL.out]; exact fun h => hrm h.1)))
        go_wp2_with fail
        go_ret
        exact ⟨by rw [HF.out]; rfl, HB.out⟩
    · obtain rfl : k = nn := by omega
      have hq := matB_true (xss := xss) (m := m) (by rw [HL.out]; exact HA.out)
      have HF : Hid (sqB xss n m = ((k : Int) == (n : Int))) := hid (by rw [sqB_yes hq, HL.out, Bool.eq_iff_iff]; simp; omega)
      clear hq
      go_wp2_with fail
      go_ret
      exact ⟨by rw [HF.out]; rfl, HB.out⟩
/-- a linear program is valid -/
def lpOK (xs : List (List RatD)) (bs cs : List RatD) : Bool :=
  decide ((1 : Int) ≤ (cs.length : Int) ∧ (cs.length : Int) ≤ 5) && (decide ((1 : Int) ≤ (bs.length : Int) ∧ (bs.length : Int) ≤ 5) && (decide (xs.length = bs.length) && (allV bs && (allV cs && matB xs cs.length))))
theorem mat_one {fz : Bool} {lo hi : Nat} {w : World} {a : Option Addr} {n c : Nat} {xs : List RatD} (h : RatsA fz lo hi w a n c xs) (hh : hi ≤ w.heap.size) (T : TypeId) : MatA false 0 (w.heap.size + 1) (w.alloc (.cells #[.slice a n c] T)) (some ⟨w.heap.size, 0, none⟩) 1 1 [xs] := by
  refine ⟨rfl, Nat.le_refl _, by simp [maxLen], fun _ => ⟨_, 0, rfl, Nat.zero_le _, by omega, fun i hi => ?_⟩, fun h => nomatch h⟩
  obtain rfl : i = 0 := by omega
  refine ⟨[.slice a n c], xs, rfl, rfl, ⟨a, n, c, rfl, rdRats (SlA.wide ratRep (SlA.al ratRep h hh _) (Nat.zero_le _) (by omega))⟩, fun j hj => ?_⟩
  obtain rfl : j = 0 := by omega
  exact ⟨by simp, fun h => nomatch h⟩
theorem sqB_one (xs : List RatD) : sqB [xs] 1 xs.length = allV xs := by
  cases h : allV xs with
  | true => rw [sqB_yes (matB_true (fun i hi => by
      obtain rfl : i = 0 := by simpa using hi
      exact ⟨rfl, h⟩))]; rfl
  | false => exact sqB_no (matB_false (i := 0) (by simp) (by simp [mx, h]))

set_option maxRecDepth 100000 in
set_option maxHeartbeats 6400000 in
theorem implValidLP {fz : Bool} {lo hi : Nat} (a : Option Addr) (n c : Nat) (xs : List (List RatD)) (ba : Option Addr) (bn bc : Nat) (bs : List RatD) (ca : Option Addr) (cn cc : Nat) (cs : List RatD) (w : World) (hI : LPA fz lo hi w a n c xs ba bn bc bs ca cn cc cs) (hh : hi ≤ w.heap.size) :
    Calls Try.prog 24 #[lpV a n c ba bn bc ca cn cc] w (Leaves w (.bool (lpOK xs bs cs))) := by
  have hl1 := hI.1.len; have hl2 := hI.2.1.len; have hl3 := hI.2.2.len
  have hs1 := hI.1.small; have hs2 := hI.2.1.small; have hs3 := hI.2.2.small
  have hok : lpOK xs bs cs = (decide ((1 : Int) ≤ (cn : Int) ∧ (cn : Int) ≤ 5) && (decide ((1 : Int) ≤ (bn : Int) ∧ (bn : Int) ≤ 5) && (decide (n = bn) && (allV bs && (allV cs && matB xs cn))))) := by unfold lpOK; rw [hl1, hl2, hl3]
  have HLL := hid (And.intro hl1 (And.intro hl2 hl3)); clear hl1 hl2 hl3
  have HI := hid hI; clear hI
  obtain ⟨k1, hk1⟩ : ∃ k, decide ((1 : Int) ≤ (cn : Int) ∧ (cn : Int) ≤ 5) = k := ⟨_, rfl⟩
  obtain ⟨k2, hk2⟩ : ∃ k, decide ((1 : Int) ≤ (bn : Int) ∧ (bn : Int) ≤ 5) = k := ⟨_, rfl⟩
  obtain ⟨k3, hk3⟩ : ∃ k, decide (n = bn) = k := ⟨_, rfl⟩
  obtain ⟨k4, hk4⟩ : ∃ k, allV bs = k := ⟨_, rfl⟩
  obtain ⟨k5, hk5⟩ : ∃ k, allV cs = k := ⟨_, rfl⟩
  obtain ⟨k6, hk6⟩ : ∃ k, matB xs cn = k := ⟨_, rfl⟩
  rw [hk1, hk2, hk3, hk4, hk5, hk6] at hok
  have HOK := hid hok; clear hok
  have Hk1 := hid hk1
  clear hk1
  have Hk2 := hid hk2
  clear hk2
  have Hk3 := hid hk3
  have Hk4 := hid hk4
  clear hk4
  have Hk5 := hid hk5
  clear hk5
  have Hk6 := hid hk6
  clear hk6
  cases k1 with
  | false =>
    go_enter Try.func24, Try.ntmps24
    go_wp2_with fail
    refine (implWithin cn 1 5 _).mono ?_
    rintro e w1 ⟨rfl, m1, rfl⟩
    rw [Hk1.out]
    go_wp2_with fail
    go_ret
    exact ⟨by rw [HOK.out]; rfl, (by repeat (first | assumption | exact Below.refl _ _ | refine below_drewN ?_ _ | refine below_drew1 ?_ | refine Below.al ?_ (by first | exact Nat.le_refl _ | omega | (simp; done) | (simp; omega)) _ | refine Below.setCell ?_ (by first | exact Nat.le_refl _ | omega | (simp; done) | (simp; omega)) _))⟩
  | true =>
    cases k2 with
    | false =>
      go_enter Try.func24, Try.ntmps24
      go_wp2_with fail
      refine (implWithin cn 1 5 _).mono ?_
      rintro e w1 ⟨rfl, m1, rfl⟩
      rw [Hk1.out]
      go_wp2_with fail
      refine (implWithin bn 1 5 _).mono ?_
      rintro e w1 ⟨rfl, m2, rfl⟩
      rw [Hk2.out]
      go_wp2_with fail
      go_ret
      exact ⟨by rw [HOK.out]; rfl, (by repeat (first | assumption | exact Below.refl _ _ | refine below_drewN ?_ _ | refine below_drew1 ?_ | refine Below.al ?_ (by first | exact Nat.le_refl _ | omega | (simp; done) | (simp; omega)) _ | refine Below.setCell ?_ (by first | exact Nat.le_refl _ | omega | (simp; done) | (simp; omega)) _))⟩
    | true =>
      cases k3 with
      | false =>
        have hne : ((n : Int) != (bn : Int)) = true := by rw [bne_iff_ne]; have := of_decide_eq_false hk3; omega
        clear hk3
        go_enter Try.func24, Try.ntmps24
        go_wp2_with fail
        refine (implWithin cn 1 5 _).mono ?_
        rintro e w1 ⟨rfl, m1, rfl⟩
        rw [Hk1.out]
        go_wp2_with fail
        refine (implWithin bn 1 5 _).mono ?_
        rintro e w1 ⟨rfl, m2, rfl⟩
        rw [Hk2.out]
        go_wp2_with fail
        go_ret
        exact ⟨by rw [HOK.out]; rfl, (by repeat (first | assumption | exact Below.refl _ _ | refine below_drewN ?_ _ | refine below_drew1 ?_ | refine Below.al ?_ (by first | exact Nat.le_refl _ | omega | (simp; done) | (simp; omega)) _ | refine Below.setCell ?_ (by first | exact Nat.le_refl _ | omega | (simp; done) | (simp; omega)) _))⟩
      | true =>
        have hne : ((n : Int) != (bn : Int)) = false := by have := of_decide_eq_true hk3; subst this; simp
        clear hk3
        cases k4 with
        | false =>
          go_enter Try.func24, Try.ntmps24
          go_wp2_with fail
          refine (implWithin cn 1 5 _).mono ?_
          rintro e w1 ⟨rfl, m1, rfl⟩
          rw [Hk1.out]
          go_wp2_with fail
          refine (implWithin bn 1 5 _).mono ?_
          rintro e w1 ⟨rfl, m2, rfl⟩
          rw [Hk2.out]
          go_wp2_with fail
          refine (implAllValid ba bn bc bs _ (beRats (B := w.heap.size) HI.out.2.1 (by repeat (first | assumption | exact Below.refl _ _ | refine below_drewN ?_ _ | refine below_drew1 ?_ | refine Below.al ?_ (by first | exact Nat.le_refl _ | omega | (simp; done) | (simp; omega)) _ | refine Below.setCell ?_ (by first | exact Nat.le_refl _ | omega | (simp; done) | (simp; omega)) _)) hh) (by first | exact Nat.le_refl _ | omega | (simp; done) | (simp; omega))).mono ?_
          rintro e w3 ⟨rfl, hb3⟩
          rw [Hk4.out]
          have hzw3 := hb3.size
          try simp at hzw3
          have hltw3 : w.heap.size < w3.heap.size := by omega
          have q0w3 : w3.cell? ⟨w.heap.size, 0, none⟩ = some (.slice a n c) := (by rw [(bcell hb3).1 _ _ (by first | omega | (simp; done) | (simp; omega))]; first | assumption | (go_simp; done) | (simp [World.cell?]; done))
          have q1w3 : w3.cell? ⟨w.heap.size, 1, none⟩ = some (.slice ba bn bc) := (by rw [(bcell hb3).1 _ _ (by first | omega | (simp; done) | (simp; omega))]; first | assumption | (go_simp; done) | (simp [World.cell?]; done))
          have q2w3 : w3.cell? ⟨w.heap.size, 2, none⟩ = some (.slice ca cn cc) := (by rw [(bcell hb3).1 _ _ (by first | omega | (simp; done) | (simp; omega))]; first | assumption | (go_simp; done) | (simp [World.cell?]; done))
          have hBw3 : Below w.heap.size w w3 := Below.trans (by repeat (first | assumption | exact Below.refl _ _ | refine below_drewN ?_ _ | refine below_drew1 ?_ | refine Below.al ?_ (by first | exact Nat.le_refl _ | omega | (simp; done) | (simp; omega)) _ | refine Below.setCell ?_ (by first | exact Nat.le_refl _ | omega | (simp; done) | (simp; omega)) _)) (hb3.mono (by first | exact Nat.le_refl _ | omega | (simp; done) | (simp; omega)))
          have Hw3 := hid hBw3; clear hb3 hBw3
          go_wp2_with fail
          go_ret
          exact ⟨by rw [HOK.out]; rfl, Hw3.out⟩
        | true =>
          cases k5 with
          | false =>
            go_enter Try.func24, Try.ntmps24
            go_wp2_with fail
            refine (implWithin cn 1 5 _).mono ?_
            rintro e w1 ⟨rfl, m1, rfl⟩
            rw [Hk1.out]
            go_wp2_with fail
            refine (implWithin bn 1 5 _).mono ?_
            rintro e w1 ⟨rfl, m2, rfl⟩
            rw [Hk2.out]
            go_wp2_with fail
            refine (implAllValid ba bn bc bs _ (beRats (B := w.heap.size) HI.out.2.1 (by repeat (first | assumption | exact Below.refl _ _ | refine below_drewN ?_ _ | refine below_drew1 ?_ | refine Below.al ?_ (by first | exact Nat.le_refl _ | omega | (simp; done) | (simp; omega)) _ | refine Below.setCell ?_ (by first | exact Nat.le_refl _ | omega | (simp; done) | (simp; omega)) _)) hh) (by first | exact Nat.le_refl _ | omega | (simp; done) | (simp; omega))).mono ?_
            rintro e w3 ⟨rfl, hb3⟩
            rw [Hk4.out]
            have hzw3 := hb3.size
            try simp at hzw3
            have hltw3 : w.heap.size < w3.heap.size := by omega
            have q0w3 : w3.cell? ⟨w.heap.size, 0, none⟩ = some (.slice a n c) := (by rw [(bcell hb3).1 _ _ (by first | omega | (simp; done) | (simp; omega))]; first | assumption | (go_simp; done) | (simp [World.cell?]; done))
            have q1w3 : w3.cell? ⟨w.heap.size, 1, none⟩ = some (.slice ba bn bc) := (by rw [(bcell hb3).1 _ _ (by first | omega | (simp; done) | (simp; omega))]; first | assumption | (go_simp; done) | (simp [World.cell?]; done))
            have q2w3 : w3.cell? ⟨w.heap.size, 2, none⟩ = some (.slice ca cn cc) := (by rw [(bcell hb3).1 _ _ (by first | omega | (simp; done) | (simp; omega))]; first | assumption | (go_simp; done) | (simp [World.cell?]; done))
            have hBw3 : Below w.heap.size w w3 := Below.trans (by repeat (first | assumption | exact Below.refl _ _ | refine below_drewN ?_ _ | refine below_drew1 ?_ | refine Below.al ?_ (by first | exact Nat.le_refl _ | omega | (simp; done) | (simp; omega)) _ | refine Below.setCell ?_ (by first | exact Nat.le_refl _ | omega | (simp; done) | (simp; omega)) _)) (hb3.mono (by first | exact Nat.le_refl _ | omega | (simp; done) | (simp; omega)))
            have Hw3 := hid hBw3; clear hb3 hBw3
            go_wp2_with fail
            refine (implAllValid ca cn cc cs _ (beRats (B := w.heap.size) HI.out.2.2 (by have hq := Hw3.out; exact (by repeat (first | assumption | exact Below.refl _ _ | refine below_drewN ?_ _ | refine below_drew1 ?_ | refine Below.al ?_ (by first | exact Nat.le_refl _ | omega | (simp; done) | (simp; omega)) _ | refine Below.setCell ?_ (by first | exact Nat.le_refl _ | omega | (simp; done) | (simp; omega)) _))) hh) (by first | exact Nat.le_refl _ | omega | (simp; done) | (simp; omega))).mono ?_
            rintro e w4 ⟨rfl, hb4⟩
            rw [Hk5.out]
            have hzw4 := hb4.size
            try simp at hzw4
            have hltw4 : w.heap.size < w4.heap.size := by omega
            have q0w4 : w4.cell? ⟨w.heap.size, 0, none⟩ = some (.slice a n c) := (by rw [(bcell hb4).1 _ _ (by first | omega | (simp; done) | (simp; omega))]; first | assumption | (go_simp; done) | (simp [World.cell?]; done))
            have q1w4 : w4.cell? ⟨w.heap.size, 1, none⟩ = some (.slice ba bn bc) := (by rw [(bcell hb4).1 _ _ (by first | omega | (simp; done) | (simp; omega))]; first | assumption | (go_simp; done) | (simp [World.cell?]; done))
            have q2w4 : w4.cell? ⟨w.heap.size, 2, none⟩ = some (.slice ca cn cc) := (by rw [(bcell hb4).1 _ _ (by first | omega | (simp; done) | (simp; omega))]; first | assumption | (go_simp; done) | (simp [World.cell?]; done))
            have hBw4 : Below w.heap.size w w4 := Below.trans (by have hq := Hw3.out; exact (by repeat (first | assumption | exact Below.refl _ _ | refine below_drewN ?_ _ | refine below_drew1 ?_ | refine Below.al ?_ (by first | exact Nat.le_refl _ | omega | (simp; done) | (simp; omega)) _ | refine Below.setCell ?_ (by first | exact Nat.le_refl _ | omega | (simp; done) | (simp; omega)) _))) (hb4.mono (by first | exact Nat.le_refl _ | omega | (simp; done) | (simp; omega)))
            clear q0w3 q1w3 q2w3
            have Hw4 := hid hBw4; clear hb4 hBw4
            go_wp2_with fail
            go_ret
            exact ⟨by rw [HOK.out]; rfl, Hw4.out⟩
          | true =>
            go_enter Try.func24, Try.ntmps24
            go_wp2_with fail
            refine (implWithin cn 1 5 _).mono ?_
            rintro e w1 ⟨rfl, m1, rfl⟩
            rw [Hk1.out]
            go_wp2_with fail
            refine (implWithin bn 1 5 _).mono ?_
            rintro e w1 ⟨rfl, m2, rfl⟩
            rw [Hk2.out]
            go_wp2_with fail
            refine (implAllValid ba bn bc bs _ (beRats (B := w.heap.size) HI.out.2.1 (by repeat (first | assumption | exact Below.refl _ _ | refine below_drewN ?_ _ | refine below_drew1 ?_ | refine Below.al ?_ (by first | exact Nat.le_refl _ | omega | (simp; done) | (simp; omega)) _ | refine Below.setCell ?_ (by first | exact Nat.le_refl _ | omega | (simp; done) | (simp; omega)) _)) hh) (by first | exact Nat.le_refl _ | omega | (simp; done) | (simp; omega))).mono ?_
            rintro e w3 ⟨rfl, hb3⟩
            rw [Hk4.out]
            have hzw3 := hb3.size
            try simp at hzw3
            have hltw3 : w.heap.size < w3.heap.size := by omega
            have q0w3 : w3.cell? ⟨w.heap.size, 0, none⟩ = some (.slice a n c) := (by rw [(bcell hb3).1 _ _ (by first | omega | (simp; done) | (simp; omega))]; first | assumption | (go_simp; done) | (simp [World.cell?]; done))
            have q1w3 : w3.cell? ⟨w.heap.size, 1, none⟩ = some (.slice ba bn bc) := (by rw [(bcell hb3).1 _ _ (by first | omega | (simp; done) | (simp; omega))]; first | assumption | (go_simp; done) | (simp [World.cell?]; done))
            have q2w3 : w3.cell? ⟨w.heap.size, 2, none⟩ = some (.slice ca cn cc) := (by rw [(bcell hb3).1 _ _ (by first | omega | (simp; done) | (simp; omega))]; first | assumption | (go_simp; done) | (simp [World.cell?]; done))
            have hBw3 : Below w.heap.size w w3 := Below.trans (by repeat (first | assumption | exact Below.refl _ _ | refine below_drewN ?_ _ | refine below_drew1 ?_ | refine Below.al ?_ (by first | exact Nat.le_refl _ | omega | (simp; done) | (simp; omega)) _ | refine Below.setCell ?_ (by first | exact Nat.le_refl _ | omega | (simp; done) | (simp; omega)) _)) (hb3.mono (by first | exact Nat.le_refl _ | omega | (simp; done) | (simp; omega)))
            have Hw3 := hid hBw3; clear hb3 hBw3
            go_wp2_with fail
            refine (implAllValid ca cn cc cs _ (beRats (B := w.heap.size) HI.out.2.2 (by have hq := Hw3.out; exact (by repeat (first | assumption | exact Below.refl _ _ | refine below_drewN ?_ _ | refine below_drew1 ?_ | refine Below.al ?_ (by first | exact Nat.le_refl _ | omega | (simp; done) | (simp; omega)) _ | refine Below.setCell ?_ (by first | exact Nat.le_refl _ | omega | (simp; done) | (simp; omega)) _))) hh) (by first | exact Nat.le_refl _ | omega | (simp; done) | (simp; omega))).mono ?_
            rintro e w4 ⟨rfl, hb4⟩
            rw [Hk5.out]
            have hzw4 := hb4.size
            try simp at hzw4
            have hltw4 : w.heap.size < w4.heap.size := by omega
            have q0w4 : w4.cell? ⟨w.heap.size, 0, none⟩ = some (.slice a n c) := (by rw [(bcell hb4).1 _ _ (by first | omega | (simp; done) | (simp; omega))]; first | assumption | (go_simp; done) | (simp [World.cell?]; done))
            have q1w4 : w4.cell? ⟨w.heap.size, 1, none⟩ = some (.slice ba bn bc) := (by rw [(bcell hb4).1 _ _ (by first | omega | (simp; done) | (simp; omega))]; first | assumption | (go_simp; done) | (simp [World.cell?]; done))
            have q2w4 : w4.cell? ⟨w.heap.size, 2, none⟩ = some (.slice ca cn cc) := (by rw [(bcell hb4).1 _ _ (by first | omega | (simp; done) | (simp; omega))]; first | assumption | (go_simp; done) | (simp [World.cell?]; done))
            have hBw4 : Below w.heap.size w w4 := Below.trans (by have hq := Hw3.out; exact (by repeat (first | assumption | exact Below.refl _ _ | refine below_drewN ?_ _ | refine below_drew1 ?_ | refine Below.al ?_ (by first | exact Nat.le_refl _ | omega | (simp; done) | (simp; omega)) _ | refine Below.setCell ?_ (by first | exact Nat.le_refl _ | omega | (simp; done) | (simp; omega)) _))) (hb4.mono (by first | exact Nat.le_refl _ | omega | (simp; done) | (simp; omega)))
            clear q0w3 q1w3 q2w3
            have Hw4 := hid hBw4; clear hb4 hBw4
            go_wp2_with fail
            clear q0w4 q1w4 q2w4
            go_loopw [43, 5] (fun i _ wr => ∃ k : Nat, i = .int .i64 k ∧ k ≤ n ∧ Hid (∀ i, i < k → (mx xs i).length = cn ∧ allV (mx xs i) = true) ∧ Hid (Below w.heap.size w wr)) (fun i _ _ => n - (intOf i).toNat)
            case atStart => exact ⟨0, rfl, by omega, hid (fun i hi => by omega), Hw4⟩
            case round =>
              obtain ⟨k, rfl, hk, HA, HB⟩ := hrel
              by_cases hlt : k < n
              · have hzr := HB.out.size
                have hIr := beMat HI.out.1 HB.out hh
                obtain ⟨b, off, rfl⟩ := matSome hIr (by omega)
                obtain ⟨g1, g2, ra, rn, rc, d0, hr, _⟩ := matAt hIr hlt
                have hrl := hr.len
                have hrs := hr.small
                have HRL := hid hrl; clear hrl
                have HR := hid (And.intro hIr hr); clear hIr hr
                by_cases hrm : rn = cn
                · have hne2 : ((rn : Int) != (cn : Int)) = false := by rw [hrm]; simp
                  have HRM := hid hrm; clear hrm
                  obtain ⟨ok, hok⟩ : ∃ ok, allV (mx xs k) = ok := ⟨_, rfl⟩
                  have HV := hid hok; clear hok
                  cases ok with
                  | true =>
                    go_wp2_with fail
                    refine (implAllValid ra rn rc (mx xs k) _ (beRats (B := wr.heap.size) HR.out.2 (by repeat (first | assumption | exact Below.refl _ _ | refine below_drewN ?_ _ | refine below_drew1 ?_ | refine Below.al ?_ (by first | exact Nat.le_refl _ | omega | (simp; done) | (simp; omega)) _ | refine Below.setCell ?_ (by first | exact Nat.le_refl _ | omega | (simp; done) | (simp; omega)) _)) (by omega)) (by first | exact Nat.le_refl _ | omega | (simp; done) | (simp; omega))).mono ?_
                    rintro e w5 ⟨rfl, hb5⟩
                    rw [HV.out]
                    have hB5 : Below w.heap.size w w5 := Below.trans (by have hq := HB.out; exact (by repeat (first | assumption | exact Below.refl _ _ | refine below_drewN ?_ _ | refine below_drew1 ?_ | refine Below.al ?_ (by first | exact Nat.le_refl _ | omega | (simp; done) | (simp; omega)) _ | refine Below.setCell ?_ (by first | exact Nat.le_refl _ | omega | (simp; done) | (simp; omega)) _))) (hb5.mono (by first | exact Nat.le_refl _ | omega | (simp; done) | (simp; omega)))
                    have HB5 := hid hB5; clear hb5 hB5
                    go_wp2_with fail
                    go_roundw
                    case rel => exact ⟨k + 1, by go_num, by omega, hid (fun i hi => by
                      by_cases e : i = k
                      · subst e; exact ⟨HRL.out.trans HRM.out, HV.out⟩
                      · exact HA.out i (by omega)), HB5⟩
                    case measure => simp [intOf]; omega
                  | false =>
                    go_wp2_with fail
                    refine (implAllValid ra rn rc (mx xs k) _ (beRats (B := wr.heap.size) HR.out.2 (by repeat (first | assumption | exact Below.refl _ _ | refine below_drewN ?_ _ | refine below_drew1 ?_ | refine Below.al ?_ (by first | exact Nat.le_refl _ | omega | (simp; done) | (simp; omega)) _ | refine Below.setCell ?_ (by first | exact Nat.le_refl _ | omega | (simp; done) | (simp; omega)) _)) (by omega)) (by first | exact Nat.le_refl _ | omega | (simp; done) | (simp; omega))).mono ?_
                    rintro e w5 ⟨rfl, hb5⟩
                    rw [HV.out]
                    have hB5 : Below w.heap.size w w5 := Below.trans (by have hq := HB.out; exact (by repeat (first | assumption | exact Below.refl _ _ | refine below_drewN ?_ _ | refine below_drew1 ?_ | refine Below.al ?_ (by first | exact Nat.le_refl _ | omega | (simp; done) | (simp; omega)) _ | refine Below.setCell ?_ (by first | exact Nat.le_refl _ | omega | (simp; done) | (simp; omega)) _))) (hb5.mono (by first | exact Nat.le_refl _ | omega | (simp; done) | (simp; omega)))
                    have HB5 := hid hB5; clear hb5 hB5
                    have HF : Hid (k6 = false) := hid (by rw [← Hk6.out]; exact matB_false (i := k) (by rw [HLL.out.1]; exact hlt) (by rw [HV.out]; simp))
                    go_wp2_with fail
                    go_ret
                    exact ⟨by rw [HOK.out, HF.out]; rfl, HB5.out⟩
                · have hne2 : ((rn : Int) != (cn : Int)) = true := by rw [bne_iff_ne]; omega
                  have HF : Hid (k6 = false) := hid (by rw [← Hk6.out]; exact matB_false (i := k) (by rw [HLL.out.1]; exact hlt) (by rw [HRL.out]; exact fun h => hrm h.1))
                  go_wp2_with fail
                  go_ret
                  exact ⟨by rw [HOK.out, HF.out]; rfl, HB.out⟩
              · obtain rfl : k = n := by omega
                have HF : Hid (k6 = true) := hid (by rw [← Hk6.out]; exact matB_true (by rw [HLL.out.1]; exact HA.out))
                go_wp2_with fail
                go_ret
                exact ⟨by rw [HOK.out, HF.out]; rfl, HB.out⟩
set_option maxRecDepth 100000 in
set_option maxHeartbeats 6400000 in
theorem specValidLP {fz : Bool} {lo hi : Nat} (a : Option Addr) (n c : Nat) (xs : List (List RatD)) (ba : Option Addr) (bn bc : Nat) (bs : List RatD) (ca : Option Addr) (cn cc : Nat) (cs : List RatD) (w : World) (hI : LPA fz lo hi w a n c xs ba bn bc bs ca cn cc cs) (hh : hi ≤ w.heap.size) :
    Calls Try.prog 21 #[lpV a n c ba bn bc ca cn cc] w (Leaves w (.bool (lpOK xs bs cs))) := by
  have hl1 := hI.1.len; have hl2 := hI.2.1.len; have hl3 := hI.2.2.len
  have hs1 := hI.1.small; have hs2 := hI.2.1.small; have hs3 := hI.2.2.small
  have hok : lpOK xs bs cs = (decide ((1 : Int) ≤ (cn : Int) ∧ (cn : Int) ≤ 5) && (decide ((1 : Int) ≤ (bn : Int) ∧ (bn : Int) ≤ 5) && (decide (n = bn) && (allV bs && (allV cs && matB xs cn))))) := by unfold lpOK; rw [hl1, hl2, hl3]
  have HLL := hid (And.intro hl1 (And.intro hl2 hl3)); clear hl1 hl2 hl3
  have HI := hid hI; clear hI
  obtain ⟨k1, hk1⟩ : ∃ k, decide ((1 : Int) ≤ (cn : Int) ∧ (cn : Int) ≤ 5) = k := ⟨_, rfl⟩
  obtain ⟨k2, hk2⟩ : ∃ k, decide ((1 : Int) ≤ (bn : Int) ∧ (bn : Int) ≤ 5) = k := ⟨_, rfl⟩
  obtain ⟨k3, hk3⟩ : ∃ k, decide (n = bn) = k := ⟨_, rfl⟩
  obtain ⟨k4, hk4⟩ : ∃ k, allV bs = k := ⟨_, rfl⟩
  obtain ⟨k5, hk5⟩ : ∃ k, allV cs = k := ⟨_, rfl⟩
  obtain ⟨k6, hk6⟩ : ∃ k, matB xs cn = k := ⟨_, rfl⟩
  rw [hk1, hk2, hk3, hk4, hk5, hk6] at hok
  have HOK := hid hok; clear hok
  have Hk1 := hid hk1
  clear hk1
  have Hk2 := hid hk2
  clear hk2
  have Hk3 := hid hk3
  have Hk4 := hid hk4
  clear hk4
  have Hk5 := hid hk5
  clear hk5
  have Hk6 := hid hk6
  clear hk6
  have hsq : sqB xs bn cn = (k3 && k6) := by unfold sqB; rw [HLL.out.1, hk3, Hk6.out]
  have HSQ := hid hsq; clear hsq hk3
  cases k1 with
  | false =>
    go_enter Try.func21, Try.ntmps21
    go_wp2_with fail
    refine (specIn cn 1 5 _).mono ?_
    rintro e w1 ⟨rfl, m1, rfl⟩
    rw [Hk1.out]
    go_wp2_with fail
    go_ret
    exact ⟨by rw [HOK.out]; rfl, (by repeat (first | assumption | exact Below.refl _ _ | refine below_drewN ?_ _ | refine below_drew1 ?_ | refine Below.al ?_ (by first | exact Nat.le_refl _ | omega | (simp; done) | (simp; omega)) _ | refine Below.setCell ?_ (by first | exact Nat.le_refl _ | omega | (simp; done) | (simp; omega)) _))⟩
  | true =>
    cases k2 with
    | false =>
      go_enter Try.func21, Try.ntmps21
      go_wp2_with fail
      refine (specIn cn 1 5 _).mono ?_
      rintro e w1 ⟨rfl, m1, rfl⟩
      rw [Hk1.out]
      go_wp2_with fail
      refine (specIn bn 1 5 _).mono ?_
      rintro e w1 ⟨rfl, m2, rfl⟩
      rw [Hk2.out]
      go_wp2_with fail
      go_ret
      exact ⟨by rw [HOK.out]; rfl, (by repeat (first | assumption | exact Below.refl _ _ | refine below_drewN ?_ _ | refine below_drew1 ?_ | refine Below.al ?_ (by first | exact Nat.le_refl _ | omega | (simp; done) | (simp; omega)) _ | refine Below.setCell ?_ (by first | exact Nat.le_refl _ | omega | (simp; done) | (simp; omega)) _))⟩
    | true =>
      obtain ⟨k36, hk36⟩ : ∃ k, (k3 && k6) = k := ⟨_, rfl⟩
      have hok2 : lpOK xs bs cs = (k36 && (k5 && k4)) := by rw [HOK.out, ← hk36]; cases k3 <;> cases k4 <;> cases k5 <;> cases k6 <;> rfl
      rw [hk36] at HSQ; clear HOK; have HOK := hid hok2; clear hok2 hk36
      cases k36 with
      | false =>
        go_enter Try.func21, Try.ntmps21
        go_wp2_with fail
        refine (specIn cn 1 5 _).mono ?_
        rintro e w1 ⟨rfl, m1, rfl⟩
        rw [Hk1.out]
        go_wp2_with fail
        refine (specIn bn 1 5 _).mono ?_
        rintro e w1 ⟨rfl, m2, rfl⟩
        rw [Hk2.out]
        go_wp2_with fail
        refine (specSquare a n c xs bn cn _ (beMat (B := w.heap.size) HI.out.1 (by repeat (first | assumption | exact Below.refl _ _ | refine below_drewN ?_ _ | refine below_drew1 ?_ | refine Below.al ?_ (by first | exact Nat.le_refl _ | omega | (simp; done) | (simp; omega)) _ | refine Below.setCell ?_ (by first | exact Nat.le_refl _ | omega | (simp; done) | (simp; omega)) _)) hh) (by first | exact Nat.le_refl _ | omega | (simp; done) | (simp; omega)) hs2 hs3).mono ?_
        rintro e w3 ⟨rfl, hb3⟩
        rw [HSQ.out]
        have hzw3 := hb3.size
        try simp at hzw3
        have hltw3 : w.heap.size < w3.heap.size := by omega
        have q0w3 : w3.cell? ⟨w.heap.size, 0, none⟩ = some (.slice a n c) := (by rw [(bcell hb3).1 _ _ (by first | omega | (simp; done) | (simp; omega))]; first | assumption | (go_simp; done) | (simp [World.cell?]; done))
        have q1w3 : w3.cell? ⟨w.heap.size, 1, none⟩ = some (.slice ba bn bc) := (by rw [(bcell hb3).1 _ _ (by first | omega | (simp; done) | (simp; omega))]; first | assumption | (go_simp; done) | (simp [World.cell?]; done))
        have q2w3 : w3.cell? ⟨w.heap.size, 2, none⟩ = some (.slice ca cn cc) := (by rw [(bcell hb3).1 _ _ (by first | omega | (simp; done) | (simp; omega))]; first | assumption | (go_simp; done) | (simp [World.cell?]; done))
        have hBw3 : Below w.heap.size w w3 := Below.trans (by repeat (first | assumption | exact Below.refl _ _ | refine below_drewN ?_ _ | refine below_drew1 ?_ | refine Below.al ?_ (by first | exact Nat.le_refl _ | omega | (simp; done) | (simp; omega)) _ | refine Below.setCell ?_ (by first | exact Nat.le_refl _ | omega | (simp; done) | (simp; omega)) _)) (hb3.mono (by first | exact Nat.le_refl _ | omega | (simp; done) | (simp; omega)))
        have Hw3 := hid hBw3; clear hb3 hBw3
        go_wp2_with fail
        go_ret
        exact ⟨by rw [HOK.out]; rfl, Hw3.out⟩
      | true =>
        cases k5 with
        | false =>
          go_enter Try.func21, Try.ntmps21
          go_wp2_with fail
          refine (specIn cn 1 5 _).mono ?_
          rintro e w1 ⟨rfl, m1, rfl⟩
          rw [Hk1.out]
          go_wp2_with fail
          refine (specIn bn 1 5 _).mono ?_
          rintro e w1 ⟨rfl, m2, rfl⟩
          rw [Hk2.out]
          go_wp2_with fail
          refine (specSquare a n c xs bn cn _ (beMat (B := w.heap.size) HI.out.1 (by repeat (first | assumption | exact Below.refl _ _ | refine below_drewN ?_ _ | refine below_drew1 ?_ | refine Below.al ?_ (by first | exact Nat.le_refl _ | omega | (simp; done) | (simp; omega)) _ | refine Below.setCell ?_ (by first | exact Nat.le_refl _ | omega | (simp; done) | (simp; omega)) _)) hh) (by first | exact Nat.le_refl _ | omega | (simp; done) | (simp; omega)) hs2 hs3).mono ?_
          rintro e w3 ⟨rfl, hb3⟩
          rw [HSQ.out]
          have hzw3 := hb3.size
          try simp at hzw3
          have hltw3 : w.heap.size < w3.heap.size := by omega
          have q0w3 : w3.cell? ⟨w.heap.size, 0, none⟩ = some (.slice a n c) := (by rw [(bcell hb3).1 _ _ (by first | omega | (simp; done) | (simp; omega))]; first | assumption | (go_simp; done) | (simp [World.cell?]; done))
          have q1w3 : w3.cell? ⟨w.heap.size, 1, none⟩ = some (.slice ba bn bc) := (by rw [(bcell hb3).1 _ _ (by first | omega | (simp; done) | (simp; omega))]; first | assumption | (go_simp; done) | (simp [World.cell?]; done))
          have q2w3 : w3.cell? ⟨w.heap.size, 2, none⟩ = some (.slice ca cn cc) := (by rw [(bcell hb3).1 _ _ (by first | omega | (simp; done) | (simp; omega))]; first | assumption | (go_simp; done) | (simp [World.cell?]; done))
          have hBw3 : Below w.heap.size w w3 := Below.trans (by repeat (first | assumption | exact Below.refl _ _ | refine below_drewN ?_ _ | refine below_drew1 ?_ | refine Below.al ?_ (by first | exact Nat.le_refl _ | omega | (simp; done) | (simp; omega)) _ | refine Below.setCell ?_ (by first | exact Nat.le_refl _ | omega | (simp; done) | (simp; omega)) _)) (hb3.mono (by first | exact Nat.le_refl _ | omega | (simp; done) | (simp; omega)))
          have Hw3 := hid hBw3; clear hb3 hBw3
          go_wp2_with fail
          refine (specSquare _ 1 1 [cs] 1 cn _ (mat_one (beRats (B := w.heap.size) HI.out.2.2 (by have hq := Hw3.out; exact (by repeat (first | assumption | exact Below.refl _ _ | refine below_drewN ?_ _ | refine below_drew1 ?_ | refine Below.al ?_ (by first | exact Nat.le_refl _ | omega | (simp; done) | (simp; omega)) _ | refine Below.setCell ?_ (by first | exact Nat.le_refl _ | omega | (simp; done) | (simp; omega)) _))) hh) (by first | exact Nat.le_refl _ | omega | (simp; done) | (simp; omega)) _) (by first | exact Nat.le_refl _ | omega | (simp; done) | (simp; omega)) (by omega) hs3).mono ?_
          rintro e w4 ⟨rfl, hb4⟩
          rw [show sqB [cs] 1 cn = allV cs from by rw [← HLL.out.2.2]; exact sqB_one _, Hk5.out]
          have hzw4 := hb4.size
          try simp at hzw4
          have hltw4 : w.heap.size < w4.heap.size := by omega
          have q0w4 : w4.cell? ⟨w.heap.size, 0, none⟩ = some (.slice a n c) := (by rw [(bcell hb4).1 _ _ (by first | omega | (simp; done) | (simp; omega))]; first | assumption | (go_simp; done) | (simp [World.cell?]; done))
          have q1w4 : w4.cell? ⟨w.heap.size, 1, none⟩ = some (.slice ba bn bc) := (by rw [(bcell hb4).1 _ _ (by first | omega | (simp; done) | (simp; omega))]; first | assumption | (go_simp; done) | (simp [World.cell?]; done))
          have q2w4 : w4.cell? ⟨w.heap.size, 2, none⟩ = some (.slice ca cn cc) := (by rw [(bcell hb4).1 _ _ (by first | omega | (simp; done) | (simp; omega))]; first | assumption | (go_simp; done) | (simp [World.cell?]; done))
          have hBw4 : Below w.heap.size w w4 := Below.trans (by have hq := Hw3.out; exact (by repeat (first | assumption | exact Below.refl _ _ | refine below_drewN ?_ _ | refine below_drew1 ?_ | refine Below.al ?_ (by first | exact Nat.le_refl _ | omega | (simp; done) | (simp; omega)) _ | refine Below.setCell ?_ (by first | exact Nat.le_refl _ | omega | (simp; done) | (simp; omega)) _))) (hb4.mono (by first | exact Nat.le_refl _ | omega | (simp; done) | (simp; omega)))
          clear q0w3 q1w3 q2w3
          have Hw4 := hid hBw4; clear hb4 hBw4
          go_wp2_with fail
          go_ret
          exact ⟨by rw [HOK.out]; rfl, Hw4.out⟩
        | true =>
          go_enter Try.func21, Try.ntmps21
          go_wp2_with fail
          refine (specIn cn 1 5 _).mono ?_
          rintro e w1 ⟨rfl, m1, rfl⟩
          rw [Hk1.out]
          go_wp2_with fail
          refine (specIn bn 1 5 _).mono ?_
          rintro e w1 ⟨rfl, m2, rfl⟩
          rw [Hk2.out]
          go_wp2_with fail
          refine (specSquare a n c xs bn cn _ (beMat (B := w.heap.size) HI.out.1 (by repeat (first | assumption | exact Below.refl _ _ | refine below_drewN ?_ _ | refine below_drew1 ?_ | refine Below.al ?_ (by first | exact Nat.le_refl _ | omega | (simp; done) | (simp; omega)) _ | refine Below.setCell ?_ (by first | exact Nat.le_refl _ | omega | (simp; done) | (simp; omega)) _)) hh) (by first | exact Nat.le_refl _ | omega | (simp; done) | (simp; omega)) hs2 hs3).mono ?_
          rintro e w3 ⟨rfl, hb3⟩
          rw [HSQ.out]
          have hzw3 := hb3.size
          try simp at hzw3
          have hltw3 : w.heap.size < w3.heap.size := by omega
          have q0w3 : w3.cell? ⟨w.heap.size, 0, none⟩ = some (.slice a n c) := (by rw [(bcell hb3).1 _ _ (by first | omega | (simp; done) | (simp; omega))]; first | assumption | (go_simp; done) | (simp [World.cell?]; done))
          have q1w3 : w3.cell? ⟨w.heap.size, 1, none⟩ = some (.slice ba bn bc) := (by rw [(bcell hb3).1 _ _ (by first | omega | (simp; done) | (simp; omega))]; first | assumption | (go_simp; done) | (simp [World.cell?]; done))
          have q2w3 : w3.cell? ⟨w.heap.size, 2, none⟩ = some (.slice ca cn cc) := (by rw [(bcell hb3).1 _ _ (by first | omega | (simp; done) | (simp; omega))]; first | assumption | (go_simp; done) | (simp [World.cell?]; done))
          have hBw3 : Below w.heap.size w w3 := Below.trans (by repeat (first | assumption | exact Below.refl _ _ | refine below_drewN ?_ _ | refine below_drew1 ?_ | refine Below.al ?_ (by first | exact Nat.le_refl _ | omega | (simp; done) | (simp; omega)) _ | refine Below.setCell ?_ (by first | exact Nat.le_refl _ | omega | (simp; done) | (simp; omega)) _)) (hb3.mono (by first | exact Nat.le_refl _ | omega | (simp; done) | (simp; omega)))
          have Hw3 := hid hBw3; clear hb3 hBw3
          go_wp2_with fail
          refine (specSquare _ 1 1 [cs] 1 cn _ (mat_one (beRats (B := w.heap.size) HI.out.2.2 (by have hq := Hw3.out; exact (by repeat (first | assumption | exact Below.refl _ _ | refine below_drewN ?_ _ | refine below_drew1 ?_ | refine Below.al ?_ (by first | exact Nat.le_refl _ | omega | (simp; done) | (simp; omega)) _ | refine Below.setCell ?_ (by first | exact Nat.le_refl _ | omega | (simp; done) | (simp; omega)) _))) hh) (by first | exact Nat.le_refl _ | omega | (simp; done) | (simp; omega)) _) (by first | exact Nat.le_refl _ | omega | (simp; done) | (simp; omega)) (by omega) hs3).mono ?_
          rintro e w4 ⟨rfl, hb4⟩
          rw [show sqB [cs] 1 cn = allV cs from by rw [← HLL.out.2.2]; exact sqB_one _, Hk5.out]
          have hzw4 := hb4.size
          try simp at hzw4
          have hltw4 : w.heap.size < w4.heap.size := by omega
          have q0w4 : w4.cell? ⟨w.heap.size, 0, none⟩ = some (.slice a n c) := (by rw [(bcell hb4).1 _ _ (by first | omega | (simp; done) | (simp; omega))]; first | assumption | (go_simp; done) | (simp [World.cell?]; done))
          have q1w4 : w4.cell? ⟨w.heap.size, 1, none⟩ = some (.slice ba bn bc) := (by rw [(bcell hb4).1 _ _ (by first | omega | (simp; done) | (simp; omega))]; first | assumption | (go_simp; done) | (simp [World.cell?]; done))
          have q2w4 : w4.cell? ⟨w.heap.size, 2, none⟩ = some (.slice ca cn cc) := (by rw [(bcell hb4).1 _ _ (by first | omega | (simp; done) | (simp; omega))]; first | assumption | (go_simp; done) | (simp [World.cell?]; done))
          have hBw4 : Below w.heap.size w w4 := Below.trans (by have hq := Hw3.out; exact (by repeat (first | assumption | exact Below.refl _ _ | refine below_drewN ?_ _ | refine below_drew1 ?_ | refine Below.al ?_ (by first | exact Nat.le_refl _ | omega | (simp; done) | (simp; omega)) _ | refine Below.setCell ?_ (by first | exact Nat.le_refl _ | omega | (simp; done) | (simp; omega)) _))) (hb4.mono (by first | exact Nat.le_refl _ | omega | (simp; done) | (simp; omega)))
          clear q0w3 q1w3 q2w3
          have Hw4 := hid hBw4; clear hb4 hBw4
          go_wp2_with fail
          refine (specSquare _ 1 1 [bs] 1 bn _ (mat_one (beRats (B := w.heap.size) HI.out.2.1 (by have hq := Hw4.out; exact (by repeat (first | assumption | exact Below.refl _ _ | refine below_drewN ?_ _ | refine below_drew1 ?_ | refine Below.al ?_ (by first | exact Nat.le_refl _ | omega | (simp; done) | (simp; omega)) _ | refine Below.setCell ?_ (by first | exact Nat.le_refl _ | omega | (simp; done) | (simp; omega)) _))) hh) (by first | exact Nat.le_refl _ | omega | (simp; done) | (simp; omega)) _) (by first | exact Nat.le_refl _ | omega | (simp; done) | (simp; omega)) (by omega) hs2).mono ?_
          rintro e w5 ⟨rfl, hb5⟩
          rw [show sqB [bs] 1 bn = allV bs from by rw [← HLL.out.2.1]; exact sqB_one _, Hk4.out]
          have hzw5 := hb5.size
          try simp at hzw5
          have hltw5 : w.heap.size < w5.heap.size := by omega
          have q0w5 : w5.cell? ⟨w.heap.size, 0, none⟩ = some (.slice a n c) := (by rw [(bcell hb5).1 _ _ (by first | omega | (simp; done) | (simp; omega))]; first | assumption | (go_simp; done) | (simp [World.cell?]; done))
          have q1w5 : w5.cell? ⟨w.heap.size, 1, none⟩ = some (.slice ba bn bc) := (by rw [(bcell hb5).1 _ _ (by first | omega | (simp; done) | (simp; omega))]; first | assumption | (go_simp; done) | (simp [World.cell?]; done))
          have q2w5 : w5.cell? ⟨w.heap.size, 2, none⟩ = some (.slice ca cn cc) := (by rw [(bcell hb5).1 _ _ (by first | omega | (simp; done) | (simp; omega))]; first | assumption | (go_simp; done) | (simp [World.cell?]; done))
          have hBw5 : Below w.heap.size w w5 := Below.trans (by have hq := Hw4.out; exact (by repeat (first | assumption | exact Below.refl _ _ | refine below_drewN ?_ _ | refine below_drew1 ?_ | refine Below.al ?_ (by first | exact Nat.le_refl _ | omega | (simp; done) | (simp; omega)) _ | refine Below.setCell ?_ (by first | exact Nat.le_refl _ | omega | (simp; done) | (simp; omega)) _))) (hb5.mono (by first | exact Nat.le_refl _ | omega | (simp; done) | (simp; omega)))
          clear q0w4 q1w4 q2w4
          have Hw5 := hid hBw5; clear hb5 hBw5
          go_wp2_with fail
          go_ret
          exact ⟨by rw [HOK.out]; rfl, Hw5.out⟩
end Go.Proofs.Ytgannpmngkgejaa
