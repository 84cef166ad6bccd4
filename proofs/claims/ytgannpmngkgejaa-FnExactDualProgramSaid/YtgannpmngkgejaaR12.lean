/- Walks: feasible points, both sides. -/
import Derived.Test.YtgannpmngkgejaaR11
namespace Go.Proofs.Ytgannpmngkgejaa
set_option linter.unusedSimpArgs false
set_option linter.unusedVariables false
open Go.RowKit
/-- no number of a list is negative -/
def nnB (ps : List RatD) : Bool := decide (∀ i, i < ps.length → 0 ≤ (qx ps i).num)
theorem nnB_true {ps : List RatD} (h : ∀ i, i < ps.length → 0 ≤ (qx ps i).num) : nnB ps = true := by simpa [nnB] using h
theorem nnB_false {ps : List RatD} {i : Nat} (hi : i < ps.length) (h : (qx ps i).num < 0) : nnB ps = false := by
  simp only [nnB, decide_eq_false_iff_not]; intro hh; have := hh i hi; omega
/-- the comparison of the row's product and the right side -/
def sideC (xs : List (List RatD)) (bs ps : List RatD) (i : Nat) : Int := cmpRat (dotR (mx xs i) ps).1 (dotR (mx xs i) ps).2.1 (qx bs i).num (qx bs i).den
def sideB (xs : List (List RatD)) (bs ps : List RatD) (sg : Int) : Bool := decide (∀ i, i < xs.length → 0 ≤ sg * sideC xs bs ps i)
theorem sideB_true {xs : List (List RatD)} {bs ps : List RatD} {sg : Int} (h : ∀ i, i < xs.length → 0 ≤ sg * sideC xs bs ps i) : sideB xs bs ps sg = true := by simpa [sideB] using h
theorem sideB_false {xs : List (List RatD)} {bs ps : List RatD} {sg : Int} {i : Nat} (hi : i < xs.length) (h : sg * sideC xs bs ps i < 0) : sideB xs bs ps sg = false := by
  simp only [sideB, decide_eq_false_iff_not]; intro hh; have := hh i hi; omega
/-- a point is feasible -/
def feasB (xs : List (List RatD)) (bs cs ps : List RatD) (sg : Int) : Bool := lpOK xs bs cs && (decide (ps.length = cs.length) && (allV ps && (nnB ps && (mvOK xs ps && sideB xs bs ps sg))))
section
variable {xs : List (List RatD)} {bs cs ps : List RatD} {sg : Int}
theorem feas_1 (h : lpOK xs bs cs = false) : feasB xs bs cs ps sg = false := by simp [feasB, h]
theorem feas_2 (h : ps.length ≠ cs.length) : feasB xs bs cs ps sg = false := by simp [feasB, h]
theorem feas_3 (h : allV ps = false) : feasB xs bs cs ps sg = false := by simp [feasB, h]
theorem feas_4 (h : nnB ps = false) : feasB xs bs cs ps sg = false := by simp [feasB, h]
theorem feas_5 (h : mvOK xs ps = false) : feasB xs bs cs ps sg = false := by simp [feasB, h]
theorem feas_6 (h : sideB xs bs ps sg = false) : feasB xs bs cs ps sg = false := by simp [feasB, h]
theorem feas_y (h1 : lpOK xs bs cs = true) (h2 : ps.length = cs.length) (h3 : allV ps = true) (h4 : nnB ps = true) (h5 : mvOK xs ps = true) (h6 : sideB xs bs ps sg = true) : feasB xs bs cs ps sg = true := by simp [feasB, h1, h2, h3, h4, h5, h6]
end
theorem cmpI_3 (x y : Int) : cmpI x y = -1 ∨ cmpI x y = 0 ∨ cmpI x y = 1 := by unfold cmpI; split; exact .inl rfl; split; exact .inr (.inr rfl); exact .inr (.inl rfl)
theorem cmpRat_3 (a b c d : Int) : cmpRat a b c d = -1 ∨ cmpRat a b c d = 0 ∨ cmpRat a b c d = 1 := by
  unfold cmpRat; split; exact cmpI_3 _ _; exact .inr (.inl rfl)
theorem lp_len {xs : List (List RatD)} {bs cs : List RatD} (h : lpOK xs bs cs = true) : xs.length = bs.length ∧ bs.length ≤ 5 ∧ cs.length ≤ 5 ∧ 1 ≤ bs.length ∧ 1 ≤ cs.length := by
  simp only [lpOK, Bool.and_eq_true, decide_eq_true_eq] at h
  omega
theorem mvTo_qx {A : List (List RatD)} {x : List RatD} {n i : Nat} (h : i < n) : qx (mvTo A x n) i = ⟨(dotR (mx A i) x).1, (dotR (mx A i) x).2.1⟩ := by
  induction n with
  | zero => omega
  | succ n ih =>
    simp only [mvTo]
    by_cases e : i < n
    · rw [← ih e]; simp only [qx, List.getD]; rw [List.getElem?_append_left (by rw [mvTo_len]; exact e)]
    · obtain rfl : i = n := by omega
      simp only [qx, List.getD]; rw [List.getElem?_append_right (by rw [mvTo_len]; exact Nat.le_refl _), mvTo_len]; simp
set_option maxRecDepth 100000 in
set_option maxHeartbeats 12800000 in
theorem implFeas {fz fz' : Bool} {lo hi lo' hi' : Nat} (a : Option Addr) (n c : Nat) (xs : List (List RatD)) (ba : Option Addr) (bn bc : Nat) (bs : List RatD) (ca : Option Addr) (cn cc : Nat) (cs : List RatD) (pa : Option Addr) (pn pc : Nat) (ps : List RatD) (sg : Int) (w : World)
    (hI : LPA fz lo hi w a n c xs ba bn bc bs ca cn cc cs) (hh : hi ≤ w.heap.size) (hJ : RatsA fz' lo' hi' w pa pn pc ps) (hh' : hi' ≤ w.heap.size) (hsg : sg = 1 ∨ sg = -1) :
    Calls Try.prog 34 #[lpV a n c ba bn bc ca cn cc, .slice pa pn pc, .int .i64 sg] w (Leaves w (.bool (feasB xs bs cs ps sg))) := by
  have hl1 := hI.1.len; have hl2 := hI.2.1.len; have hl3 := hI.2.2.len; have hl4 := hJ.len
  have hs1 := hI.1.small; have hs2 := hI.2.1.small; have hs3 := hI.2.2.small; have hs4 := hJ.small
  have HLL := hid (And.intro hl1 (And.intro hl2 (And.intro hl3 hl4))); clear hl1 hl2 hl3 hl4
  have HSG := hid hsg; clear hsg
  obtain ⟨W, hW⟩ : ∃ W, W = w.alloc (.cells #[.slice a n c, .slice ba bn bc, .slice ca cn cc] 30) := ⟨_, rfl⟩
  have hBW : Below w.heap.size w W := by rw [hW]; exact (by repeat (first | assumption | exact Below.refl _ _ | refine below_drewN ?_ _ | refine Below.al ?_ (by first | exact Nat.le_refl _ | omega | (simp; done) | (simp; omega)) _ | refine Below.setCell ?_ (by first | exact Nat.le_refl _ | omega | (simp; done) | (simp; omega)) _))
  have hz : W.heap.size = w.heap.size + 1 := by rw [hW]; simp
  have c0 : W.cell? ⟨w.heap.size, 0, none⟩ = some (.slice a n c) := by rw [hW]; simp
  have c1 : W.cell? ⟨w.heap.size, 1, none⟩ = some (.slice ba bn bc) := by rw [hW]; simp
  have c2 : W.cell? ⟨w.heap.size, 2, none⟩ = some (.slice ca cn cc) := by rw [hW]; simp
  have hIW := beLP hI hBW hh
  have hJW := beRats hJ hBW hh'
  have HW := hid (And.intro hW (And.intro hBW (And.intro hIW hJW))); clear hW hBW hIW hJW hI hJ
  have HZ := hid hz; have hzl : w.heap.size < W.heap.size := by omega
  clear hz
  have hhW : hi ≤ W.heap.size := by omega
  have hhW' : hi' ≤ W.heap.size := by omega
  obtain ⟨k1, hk1⟩ : ∃ k, lpOK xs bs cs = k := ⟨_, rfl⟩
  have H1 := hid hk1; clear hk1
  cases k1 with
  | false =>
    have HF := hid (feas_1 (ps := ps) (sg := sg) H1.out)
    go_enter Try.func34, Try.ntmps34
    go_upto_region 1 with fail
    rw [← HW.out.1]
    go_wp2_with fail
    refine (implValidLP a n c xs ba bn bc bs ca cn cc cs _ HW.out.2.2.1 hhW).mono ?_
    rintro e w1 ⟨rfl, hb1⟩
    rw [H1.out]
    have b0w1 : w1.cell? ⟨w.heap.size, 0, none⟩ = some (.slice a n c) := by rw [(bcell hb1).1 _ _ hzl]; exact c0
    have b1w1 : w1.cell? ⟨w.heap.size, 1, none⟩ = some (.slice ba bn bc) := by rw [(bcell hb1).1 _ _ hzl]; exact c1
    have b2w1 : w1.cell? ⟨w.heap.size, 2, none⟩ = some (.slice ca cn cc) := by rw [(bcell hb1).1 _ _ hzl]; exact c2
    have HB1 := hid hb1; clear hb1
    go_wp2_with fail
    go_ret
    exact ⟨by rw [HF.out]; rfl, HW.out.2.1.trans ((HB1.out).mono (by omega))⟩
  | true =>
    have hlp := lp_len H1.out
    have hnb : n = bn ∧ n ≤ 5 := by have := HLL.out; omega
    have hn5 := hnb.2; have HNB := hid hnb; clear hlp hnb
    by_cases h2 : pn = cn
    · have hne : ((pn : Int) != (cn : Int)) = false := by rw [h2]; simp
      have H2 := hid h2; clear h2
      obtain ⟨k3, hk3⟩ : ∃ k, allV ps = k := ⟨_, rfl⟩
      have H3 := hid hk3; clear hk3
      cases k3 with
      | false =>
        have HF := hid (feas_3 (xs := xs) (bs := bs) (cs := cs) (sg := sg) H3.out)
        go_enter Try.func34, Try.ntmps34
        go_upto_region 1 with fail
        rw [← HW.out.1]
        go_wp2_with fail
        refine (implValidLP a n c xs ba bn bc bs ca cn cc cs _ HW.out.2.2.1 hhW).mono ?_
        rintro e w1 ⟨rfl, hb1⟩
        rw [H1.out]
        have b0w1 : w1.cell? ⟨w.heap.size, 0, none⟩ = some (.slice a n c) := by rw [(bcell hb1).1 _ _ hzl]; exact c0
        have b1w1 : w1.cell? ⟨w.heap.size, 1, none⟩ = some (.slice ba bn bc) := by rw [(bcell hb1).1 _ _ hzl]; exact c1
        have b2w1 : w1.cell? ⟨w.heap.size, 2, none⟩ = some (.slice ca cn cc) := by rw [(bcell hb1).1 _ _ hzl]; exact c2
        have HB1 := hid hb1; clear hb1
        go_wp2_with fail
        refine (implAllValid pa pn pc ps _ (beRats HW.out.2.2.2 HB1.out hhW') (by have := HB1.out.size; omega)).mono ?_
        rintro e w2 ⟨rfl, hb2⟩
        rw [H3.out]
        have hb2W := Below.calm HB1.out hb2
        clear hb2
        clear b0w1 b1w1 b2w1
        have b0w2 : w2.cell? ⟨w.heap.size, 0, none⟩ = some (.slice a n c) := by rw [(bcell hb2W).1 _ _ hzl]; exact c0
        have b1w2 : w2.cell? ⟨w.heap.size, 1, none⟩ = some (.slice ba bn bc) := by rw [(bcell hb2W).1 _ _ hzl]; exact c1
        have b2w2 : w2.cell? ⟨w.heap.size, 2, none⟩ = some (.slice ca cn cc) := by rw [(bcell hb2W).1 _ _ hzl]; exact c2
        have HB2 := hid hb2W; clear hb2W
        go_wp2_with fail
        go_ret
        exact ⟨by rw [HF.out]; rfl, HW.out.2.1.trans ((HB2.out).mono (by omega))⟩
      | true =>
        go_enter Try.func34, Try.ntmps34
        go_upto_region 1 with fail
        rw [← HW.out.1]
        go_wp2_with fail
        refine (implValidLP a n c xs ba bn bc bs ca cn cc cs _ HW.out.2.2.1 hhW).mono ?_
        rintro e w1 ⟨rfl, hb1⟩
        rw [H1.out]
        have b0w1 : w1.cell? ⟨w.heap.size, 0, none⟩ = some (.slice a n c) := by rw [(bcell hb1).1 _ _ hzl]; exact c0
        have b1w1 : w1.cell? ⟨w.heap.size, 1, none⟩ = some (.slice ba bn bc) := by rw [(bcell hb1).1 _ _ hzl]; exact c1
        have b2w1 : w1.cell? ⟨w.heap.size, 2, none⟩ = some (.slice ca cn cc) := by rw [(bcell hb1).1 _ _ hzl]; exact c2
        have HB1 := hid hb1; clear hb1
        go_wp2_with fail
        refine (implAllValid pa pn pc ps _ (beRats HW.out.2.2.2 HB1.out hhW') (by have := HB1.out.size; omega)).mono ?_
        rintro e w2 ⟨rfl, hb2⟩
        rw [H3.out]
        have hb2W := Below.calm HB1.out hb2
        clear hb2
        clear b0w1 b1w1 b2w1
        have b0w2 : w2.cell? ⟨w.heap.size, 0, none⟩ = some (.slice a n c) := by rw [(bcell hb2W).1 _ _ hzl]; exact c0
        have b1w2 : w2.cell? ⟨w.heap.size, 1, none⟩ = some (.slice ba bn bc) := by rw [(bcell hb2W).1 _ _ hzl]; exact c1
        have b2w2 : w2.cell? ⟨w.heap.size, 2, none⟩ = some (.slice ca cn cc) := by rw [(bcell hb2W).1 _ _ hzl]; exact c2
        have HB2 := hid hb2W; clear hb2W
        go_wp2_with fail
        clear b0w2 b1w2 b2w2
        go_loopw [31, 8] (fun i _ wr => ∃ k : Nat, i = .int .i64 k ∧ k ≤ pn ∧ Hid (∀ i, i < k → 0 ≤ (qx ps i).num) ∧ Hid (Below W.heap.size W wr)) (fun i _ _ => pn - (intOf i).toNat)
        case atStart => exact ⟨0, rfl, by omega, hid (fun i hi => by omega), HB2⟩
        case round =>
          obtain ⟨k, rfl, hk, HA, HB⟩ := hrel
          by_cases hlt : k < pn
          · have hJr := beRats HW.out.2.2.2 HB.out hhW'
            have hzr := HB.out.size
            obtain ⟨b, off, rfl⟩ := ratsSome hJr (by omega)
            obtain ⟨g1, g2, i1, i2, d0, d1, _⟩ := ratsAt hJr hlt
            have HJ := hid (And.intro hJr (And.intro i1 i2)); clear hJr i1 i2
            by_cases hneg : (qx ps k).num < 0
            · have HF := hid (feas_4 (xs := xs) (bs := bs) (cs := cs) (sg := sg) (nnB_false (ps := ps) (i := k) (by rw [HLL.out.2.2.2]; exact hlt) hneg))
              go_wp2_with fail
              go_ret
              exact ⟨by rw [HF.out]; rfl, HW.out.2.1.trans ((show Below W.heap.size W _ from by have hq := HB.out; exact (by repeat (first | assumption | exact Below.refl _ _ | refine below_drewN ?_ _ | refine below_drew1 ?_ | refine Below.al ?_ (by first | exact Nat.le_refl _ | omega | (simp; done) | (simp; omega)) _ | refine Below.setCell ?_ (by first | exact Nat.le_refl _ | omega | (simp; done) | (simp; omega)) _))).mono (by omega))⟩
            · go_wp2_with fail
              go_roundw
              case rel => exact ⟨k + 1, by go_num, by omega, hid (fun i hi => by
                by_cases e : i = k
                · subst e; omega
                · exact HA.out i (by omega)), hid (by have hq := HB.out; exact (by repeat (first | assumption | exact Below.refl _ _ | refine below_drewN ?_ _ | refine below_drew1 ?_ | refine Below.al ?_ (by first | exact Nat.le_refl _ | omega | (simp; done) | (simp; omega)) _ | refine Below.setCell ?_ (by first | exact Nat.le_refl _ | omega | (simp; done) | (simp; omega)) _)))⟩
              case measure => simp [intOf]; omega
          · obtain rfl : pn = k := by omega
            have H4 := hid (nnB_true (ps := ps) (by rw [HLL.out.2.2.2]; exact HA.out))
            have hzr := HB.out.size
            have b0wr : wr.cell? ⟨w.heap.size, 0, none⟩ = some (.slice a n c) := by rw [(bcell HB.out).1 _ _ hzl]; exact c0
            have b1wr : wr.cell? ⟨w.heap.size, 1, none⟩ = some (.slice ba bn bc) := by rw [(bcell HB.out).1 _ _ hzl]; exact c1
            have b2wr : wr.cell? ⟨w.heap.size, 2, none⟩ = some (.slice ca cn cc) := by rw [(bcell HB.out).1 _ _ hzl]; exact c2
            obtain ⟨k5, hk5⟩ : ∃ k, mvOK xs ps = k := ⟨_, rfl⟩
            have H5 := hid hk5; clear hk5
            cases k5 with
            | false =>
              have HF := hid (feas_5 (bs := bs) (cs := cs) (sg := sg) H5.out)
              go_wp2_with fail
              refine (implMV a n c xs pa pn pc ps _ (beMat HW.out.2.2.1.1 HB.out hhW) (by omega) (beRats HW.out.2.2.2 HB.out hhW') (by omega) (by omega)).mono ?_
              rintro e w3 ⟨ya, yn, yc, rfl, ho3, hb3⟩
              rw [H5.out]
              have hb3W := Below.calm HB.out hb3
              have b0w3 : w3.cell? ⟨w.heap.size, 0, none⟩ = some (.slice a n c) := by rw [(bcell hb3W).1 _ _ hzl]; exact c0
              have b1w3 : w3.cell? ⟨w.heap.size, 1, none⟩ = some (.slice ba bn bc) := by rw [(bcell hb3W).1 _ _ hzl]; exact c1
              have b2w3 : w3.cell? ⟨w.heap.size, 2, none⟩ = some (.slice ca cn cc) := by rw [(bcell hb3W).1 _ _ hzl]; exact c2
              have hz3 := hb3.size
              have HO3 := hid ho3; have HB3 := hid hb3W; clear ho3 hb3 hb3W
              clear b0wr b1wr b2wr
              go_wp2_with fail
              go_ret
              exact ⟨by rw [HF.out]; rfl, HW.out.2.1.trans ((HB3.out).mono (by omega))⟩
            | true =>
              go_wp2_with fail
              refine (implMV a n c xs pa pn pc ps _ (beMat HW.out.2.2.1.1 HB.out hhW) (by omega) (beRats HW.out.2.2.2 HB.out hhW') (by omega) (by omega)).mono ?_
              rintro e w3 ⟨ya, yn, yc, rfl, ho3, hb3⟩
              rw [H5.out]
              have hb3W := Below.calm HB.out hb3
              have b0w3 : w3.cell? ⟨w.heap.size, 0, none⟩ = some (.slice a n c) := by rw [(bcell hb3W).1 _ _ hzl]; exact c0
              have b1w3 : w3.cell? ⟨w.heap.size, 1, none⟩ = some (.slice ba bn bc) := by rw [(bcell hb3W).1 _ _ hzl]; exact c1
              have b2w3 : w3.cell? ⟨w.heap.size, 2, none⟩ = some (.slice ca cn cc) := by rw [(bcell hb3W).1 _ _ hzl]; exact c2
              have hz3 := hb3.size
              have HO3 := hid ho3; have HB3 := hid hb3W; clear ho3 hb3 hb3W
              clear b0wr b1wr b2wr
              go_wp2_with fail
              obtain rfl : yn = n := by have := HO3.out.len; rw [mvL_yes H5.out, mvTo_len, HLL.out.1] at this; exact this.symm
              have hym : mvL xs ps = mvTo xs ps yn := by rw [mvL_yes H5.out, HLL.out.1]
              have hYR : RatsA true wr.heap.size w3.heap.size w3 ya yn yc (mvTo xs ps yn) := by rw [← hym]; exact HO3.out.rats
              have HY := hid hYR; clear hym hYR b0w3 b1w3 b2w3
              go_loopw [50, 11, 12] (fun i _ _ wq => ∃ k : Nat, i = .int .i64 k ∧ k ≤ yn ∧ Hid (∀ i, i < k → 0 ≤ sg * sideC xs bs ps i) ∧ Hid (Below w3.heap.size w3 wq)) (fun i _ _ _ => yn - (intOf i).toNat)
              case atStart => exact ⟨0, rfl, by omega, hid (fun i hi => by omega), hid (Below.refl _ _)⟩
              case round =>
                obtain ⟨k, rfl, hk, HS, HBq⟩ := hrel
                have HBW := hid (Below.calm HB3.out HBq.out)
                by_cases hlt : k < yn
                · have hzq := HBq.out.size
                  have hYq := beRats HY.out HBq.out (Nat.le_refl _)
                  have hBq := beRats HW.out.2.2.1.2.1 HBW.out hhW
                  obtain ⟨b, off, rfl⟩ := ratsSome hYq (by omega)
                  obtain ⟨g1, g2, i1, i2, d0, d1, _⟩ := ratsAt hYq hlt
                  rw [mvTo_qx hlt] at i1 i2 d0 d1
                  obtain ⟨b', off', rfl⟩ := ratsSome hBq (by have := HNB.out; omega)
                  obtain ⟨g1', g2', i1', i2', d0', d1', _⟩ := ratsAt hBq (i := k) (by have := HNB.out; omega)
                  obtain ⟨t, ht⟩ : ∃ t, sg * sideC xs bs ps k = t := ⟨_, rfl⟩
                  obtain ⟨cv, hcv⟩ : ∃ t, sideC xs bs ps k = t := ⟨_, rfl⟩
                  have hc3 : cv = -1 ∨ cv = 0 ∨ cv = 1 := by rw [← hcv]; exact cmpRat_3 _ _ _ _
                  rw [hcv] at ht
                  have htw : IntKind.i64.wrap (sg * cv) = t := by rw [IntWalk.i64_in _ (by rcases HSG.out with rfl | rfl <;> omega)]; exact ht
                  have htw2 : IntKind.i64.wrap (cv * sg) = t := by rw [Int.mul_comm]; exact htw
                  have htb : -1 ≤ t ∧ t ≤ 1 := by rcases HSG.out with rfl | rfl <;> omega
                  have HT := hid (And.intro ht (And.intro hcv hc3)); clear ht hcv hc3
                  obtain ⟨X, hX⟩ : ∃ X, X = wr.alloc (.cells #[.int .i64 (dotR (mx xs k) ps).1, .int .i64 (dotR (mx xs k) ps).2.1] 53) := ⟨_, rfl⟩
                  have hXB : Below wr.heap.size wr X := by rw [hX]; exact (by repeat (first | assumption | exact Below.refl _ _ | refine below_drewN ?_ _ | refine Below.al ?_ (by first | exact Nat.le_refl _ | omega | (simp; done) | (simp; omega)) _ | refine Below.setCell ?_ (by first | exact Nat.le_refl _ | omega | (simp; done) | (simp; omega)) _))
                  have hXz : X.heap.size = wr.heap.size + 1 := by rw [hX]; simp
                  have x0 : ∀ x : Later X.heap.size X, x.w.cell? ⟨wr.heap.size, 0, none⟩ = some (.int .i64 (dotR (mx xs k) ps).1) := fun x => x.cell (by rw [hX]; simp) (by omega)
                  have x1 : ∀ x : Later X.heap.size X, x.w.cell? ⟨wr.heap.size, 1, none⟩ = some (.int .i64 (dotR (mx xs k) ps).2.1) := fun x => x.cell (by rw [hX]; simp) (by omega)
                  have y0 : ∀ x : Later X.heap.size X, x.w.cell? ⟨b', off' + k * 2, none⟩ = some (.int .i64 (qx bs k).num) := fun x => x.cell (by rw [(bcell hXB).1 _ _ (by omega)]; exact d0') (by omega)
                  have y1 : ∀ x : Later X.heap.size X, x.w.cell? ⟨b', off' + k * 2 + 1, none⟩ = some (.int .i64 (qx bs k).den) := fun x => x.cell (by rw [(bcell hXB).1 _ _ (by omega)]; exact d1') (by omega)
                  have z1 : ∀ x : Later X.heap.size X, x.w.cell? ⟨w.heap.size, 1, none⟩ = some (.slice (some ⟨b', off', none⟩) bn bc) := fun x => x.cell (by rw [(bcell hXB).1 _ _ (by have := HBW.out.size; omega), (bcell HBW.out).1 _ _ hzl]; exact c1) (by have := HBW.out.size; omega)
                  have HXB := hid (Below.calm HBq.out hXB)
                  have HX := hid hX; clear hX hXB
                  have HC := hid (fun x : Later X.heap.size X => later_of x (Nat.le_refl _) (show Calls Try.prog 44 #[ratV (dotR (mx xs k) ps).1 (dotR (mx xs k) ps).2.1, ratV (qx bs k).num (qx bs k).den] x.w (Leaves x.w (.int .i64 cv)) by have := implCompareRationals (dotR (mx xs k) ps).1 (dotR (mx xs k) ps).2.1 (qx bs k).num (qx bs k).den x.w i1 i2 i1' i2'; rw [← HT.out.2.1]; exact this))
                  have hnb2 : k < bn := by have := HNB.out; omega
                  have HI := hid (And.intro (And.intro hYq hBq) (And.intro (And.intro i1 i2) (And.intro i1' i2'))); clear hYq hBq i1 i2 i1' i2' d0' d1'
                  by_cases hneg : t < 0
                  · have HF := hid (feas_6 (cs := cs) (sideB_false (xs := xs) (bs := bs) (ps := ps) (sg := sg) (i := k) (by rw [HLL.out.1]; exact hlt) (by rw [HT.out.2.1, HT.out.1]; exact hneg)))
                    go_wp2_with fail
                    rw [← HX.out]
                    refine wp_region_later (B := X.heap.size) (w0 := X) (by kernel_rfl) (by kernel_rfl) (Below.refl _ _) ?_
                    repeat (any_goals (first | go_big_quiet_step (((go_at_call 44; exact HC.out _))) | quiet_step (((go_at_call 44; exact HC.out _)))))
                    refine wpQuiet_nil ?_
                    intro _ hw'
                    obtain ⟨nq, hw''⟩ := hw'
                    subst hw''
                    have HQ := hid nq.be
                    generalize nq.w = wz at *
                    have HBZ := hid (Below.trans HXB.out (HQ.out.mono (by have := HXB.out.size; omega)))
                    go_wp2_with fail
                    go_ret
                    exact ⟨by rw [HF.out]; rfl, HW.out.2.1.trans ((Below.calm HB3.out HBZ.out).mono (by omega))⟩
                  · have HNG := hid hneg
                    go_wp2_with fail
                    rw [← HX.out]
                    refine wp_region_later (B := X.heap.size) (w0 := X) (by kernel_rfl) (by kernel_rfl) (Below.refl _ _) ?_
                    repeat (any_goals (first | go_big_quiet_step (((go_at_call 44; exact HC.out _))) | quiet_step (((go_at_call 44; exact HC.out _)))))
                    refine wpQuiet_nil ?_
                    intro _ hw'
                    obtain ⟨nq, hw''⟩ := hw'
                    subst hw''
                    have HQ := hid nq.be
                    generalize nq.w = wz at *
                    have HBZ := hid (Below.trans HXB.out (HQ.out.mono (by have := HXB.out.size; omega)))
                    go_wp2_with fail
                    go_roundw
                    case rel => exact ⟨k + 1, by go_num, by omega, hid (fun i hi => by
                      by_cases e : i = k
                      · subst e; have h1 := HNG.out; have h2 := HT.out.1; rw [← HT.out.2.1] at h2; omega
                      · exact HS.out i (by omega)), HBZ⟩
                    case measure => simp [intOf]; omega
                · obtain rfl : k = yn := by omega
                  have HF := hid (feas_y H1.out (by rw [HLL.out.2.2.1, HLL.out.2.2.2]; exact H2.out) H3.out H4.out H5.out (sideB_true (xs := xs) (bs := bs) (ps := ps) (sg := sg) (by rw [HLL.out.1]; exact HS.out)))
                  go_wp2_with fail
                  go_ret
                  exact ⟨by rw [HF.out]; rfl, HW.out.2.1.trans ((HBW.out).mono (by omega))⟩
    · have hne : ((pn : Int) != (cn : Int)) = true := by rw [bne_iff_ne]; omega
      have HF := hid (feas_2 (xs := xs) (bs := bs) (sg := sg) (show ps.length ≠ cs.length by rw [HLL.out.2.2.1, HLL.out.2.2.2]; exact h2))
      clear h2
      go_enter Try.func34, Try.ntmps34
      go_upto_region 1 with fail
      rw [← HW.out.1]
      go_wp2_with fail
      refine (implValidLP a n c xs ba bn bc bs ca cn cc cs _ HW.out.2.2.1 hhW).mono ?_
      rintro e w1 ⟨rfl, hb1⟩
      rw [H1.out]
      have b0w1 : w1.cell? ⟨w.heap.size, 0, none⟩ = some (.slice a n c) := by rw [(bcell hb1).1 _ _ hzl]; exact c0
      have b1w1 : w1.cell? ⟨w.heap.size, 1, none⟩ = some (.slice ba bn bc) := by rw [(bcell hb1).1 _ _ hzl]; exact c1
      have b2w1 : w1.cell? ⟨w.heap.size, 2, none⟩ = some (.slice ca cn cc) := by rw [(bcell hb1).1 _ _ hzl]; exact c2
      have HB1 := hid hb1; clear hb1
      go_wp2_with fail
      go_ret
      exact ⟨by rw [HF.out]; rfl, HW.out.2.1.trans ((HB1.out).mono (by omega))⟩
end Go.Proofs.Ytgannpmngkgejaa
