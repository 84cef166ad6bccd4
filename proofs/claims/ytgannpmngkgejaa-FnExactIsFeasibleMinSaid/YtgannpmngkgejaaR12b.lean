/- Walks: feasible points, the reference. -/
import Derived.Test.YtgannpmngkgejaaR12
namespace Go.Proofs.Ytgannpmngkgejaa
set_option linter.unusedSimpArgs false
set_option linter.unusedVariables false
open Go.RowKit
set_option maxRecDepth 100000 in
set_option maxHeartbeats 12800000 in
theorem specFeas {fz fz' : Bool} {lo hi lo' hi' : Nat} (a : Option Addr) (n c : Nat) (xs : List (List RatD)) (ba : Option Addr) (bn bc : Nat) (bs : List RatD) (ca : Option Addr) (cn cc : Nat) (cs : List RatD) (pa : Option Addr) (pn pc : Nat) (ps : List RatD) (sg : Int) (w : World)
    (hI : LPA fz lo hi w a n c xs ba bn bc bs ca cn cc cs) (hh : hi ≤ w.heap.size) (hJ : RatsA fz' lo' hi' w pa pn pc ps) (hh' : hi' ≤ w.heap.size) (hsg : sg = 1 ∨ sg = -1) :
    Calls Try.prog 32 #[lpV a n c ba bn bc ca cn cc, .slice pa pn pc, .int .i64 sg] w (Leaves w (.bool (feasB xs bs cs ps sg))) := by
  have hl1 := hI.1.len; have hl2 := hI.2.1.len; have hl3 := hI.2.2.len; have hl4 := hJ.len
  have hs1 := hI.1.small; have hs2 := hI.2.1.small; have hs3 := hI.2.2.small; have hs4 := hJ.small
  have HLL := hid (And.intro hl1 (And.intro hl2 (And.intro hl3 hl4))); clear hl1 hl2 hl3 hl4
  have HSG := hid hsg; clear hsg
  obtain ⟨W, hW⟩ : ∃ W, W = w.alloc (.cells #[.slice a n c, .slice ba bn bc, .slice ca cn cc] 30) := ⟨_, rfl⟩
  have hBW : Below w.heap.size w W := by rw [hW]; exact (by repeat (first | assumption | exact Below.refl _ _ | refine below_drewN ?_ _ | refine Below.al ?_ (by first | exact Nat.le_refl _ | omega | (simp; done) | (simp; omega)) _ | refine Below.setCell ?_ (by first | exact Nat.le_refl _ | omega | (simp; done) | (simp; omega)) _))
  have hz : W.heap.size = w.heap.size + 1 := by rw [hW]; simp
  have c0 : W.cell? ⟨w.heap.size, 0, none⟩ = some (.slice a n c) := by rw [hW]; simp
  have c1 : W.cell? ⟨w.heap.size, 1, none⟩ = some (.slice ba bn bc) := by rw [hW]; simp
  have c2 : W.cell? ⟨w.heap.size, 2, none⟩ = some (.slice ca cn cc) := by rw [hW]; simp
  have hIW := beLP hI hBW hh
  have hJW := beRats hJ hBW hh'
  have HW := hid (And.intro hW (And.intro hBW (And.intro hIW hJW))); clear hW hBW hIW hJW hI hJ
  have HZ := hid hz; have hzl : w.heap.size < W.heap.size := by omega
  clear hz
  have hhW : hi ≤ W.heap.size := by omega
  have hhW' : hi' ≤ W.heap.size := by omega
  obtain ⟨k1, hk1⟩ : ∃ k, lpOK xs bs cs = k := ⟨_, rfl⟩
  have H1 := hid hk1; clear hk1
  cases k1 with
  | false =>
    have HF := hid (feas_1 (ps := ps) (sg := sg) H1.out)
    go_enter Try.func32, Try.ntmps32
    go_upto_region 1 with fail
    rw [← HW.out.1]
    go_wp2_with fail
    refine (specValidLP a n c xs ba bn bc bs ca cn cc cs _ HW.out.2.2.1 hhW).mono ?_
    rintro e w1 ⟨rfl, hb1⟩
    rw [H1.out]
    have b0w1 : w1.cell? ⟨w.heap.size, 0, none⟩ = some (.slice a n c) := by rw [(bcell hb1).1 _ _ hzl]; exact c0
    have b1w1 : w1.cell? ⟨w.heap.size, 1, none⟩ = some (.slice ba bn bc) := by rw [(bcell hb1).1 _ _ hzl]; exact c1
    have b2w1 : w1.cell? ⟨w.heap.size, 2, none⟩ = some (.slice ca cn cc) := by rw [(bcell hb1).1 _ _ hzl]; exact c2
    have HB1 := hid hb1; clear hb1
    go_wp2_with fail
    go_ret
    exact ⟨by rw [HF.out]; rfl, HW.out.2.1.trans ((HB1.out).mono (by omega))⟩
  | true =>
    have hlp := lp_len H1.out
    have hnb : n = bn ∧ n ≤ 5 := by have := HLL.out; omega
    have hn5 := hnb.2; have HNB := hid hnb; clear hlp hnb
    by_cases h2 : pn = cn
    · have hne : ((pn : Int) != (cn : Int)) = false := by rw [h2]; simp
      have H2 := hid h2; clear h2
      go_enter Try.func32, Try.ntmps32
      go_upto_region 1 with fail
      rw [← HW.out.1]
      go_wp2_with fail
      refine (specValidLP a n c xs ba bn bc bs ca cn cc cs _ HW.out.2.2.1 hhW).mono ?_
      rintro e w1 ⟨rfl, hb1⟩
      rw [H1.out]
      have b0w1 : w1.cell? ⟨w.heap.size, 0, none⟩ = some (.slice a n c) := by rw [(bcell hb1).1 _ _ hzl]; exact c0
      have b1w1 : w1.cell? ⟨w.heap.size, 1, none⟩ = some (.slice ba bn bc) := by rw [(bcell hb1).1 _ _ hzl]; exact c1
      have b2w1 : w1.cell? ⟨w.heap.size, 2, none⟩ = some (.slice ca cn cc) := by rw [(bcell hb1).1 _ _ hzl]; exact c2
      have HB1 := hid hb1; clear hb1
      go_wp2_with fail
      clear b0w1 b1w1 b2w1
      go_loopw [7] (fun i wr => ∃ k : Nat, i = .int .i64 k ∧ k ≤ pn ∧ Hid (∀ i, i < k → ratOK (qx ps i).num (qx ps i).den = true ∧ 0 ≤ (qx ps i).num) ∧ Hid (Below W.heap.size W wr)) (fun i _ => pn - (intOf i).toNat)
      case atStart => exact ⟨0, rfl, by omega, hid (fun i hi => by omega), HB1⟩
      case round =>
        obtain ⟨k, rfl, hk, HA, HB⟩ := hrel
        by_cases hlt : k < pn
        · have hJr := beRats HW.out.2.2.2 HB.out hhW'
          have hzr := HB.out.size
          obtain ⟨b, off, rfl⟩ := ratsSome hJr (by omega)
          obtain ⟨g1, g2, i1, i2, d0, d1, _⟩ := ratsAt hJr hlt
          have HJ := hid (And.intro hJr (And.intro i1 i2)); clear hJr i1 i2
          obtain ⟨ok, hok⟩ : ∃ k_, ratOK (qx ps k).num (qx ps k).den = k_ := ⟨_, rfl⟩
          have HV := hid hok; clear hok
          cases ok with
          | false =>
            have HF := hid (feas_3 (xs := xs) (bs := bs) (cs := cs) (sg := sg) (allV_false (xs := ps) (i := k) (by rw [HLL.out.2.2.2]; exact hlt) HV.out))
            go_wp2_with fail
            refine (specValidRat (qx ps k).num (qx ps k).den _ HJ.out.2.1 HJ.out.2.2).mono ?_
            rintro e w2 ⟨rfl, hb2⟩
            rw [HV.out]
            have d0w : w2.cell? ⟨b, off + k * 2, none⟩ = some (.int .i64 (qx ps k).num) := by rw [(bcell hb2).1 _ _ (by omega)]; exact d0
            have hb2W := Below.calm HB.out hb2
            have HB2 := hid hb2W; clear hb2 hb2W d0 d1
            go_wp2_with fail
            go_ret
            exact ⟨by rw [HF.out]; rfl, HW.out.2.1.trans ((HB2.out).mono (by omega))⟩
          | true =>
            go_wp2_with fail
            refine (specValidRat (qx ps k).num (qx ps k).den _ HJ.out.2.1 HJ.out.2.2).mono ?_
            rintro e w2 ⟨rfl, hb2⟩
            rw [HV.out]
            have d0w : w2.cell? ⟨b, off + k * 2, none⟩ = some (.int .i64 (qx ps k).num) := by rw [(bcell hb2).1 _ _ (by omega)]; exact d0
            have hb2W := Below.calm HB.out hb2
            have HB2 := hid hb2W; clear hb2 hb2W d0 d1
            by_cases hneg : (qx ps k).num < 0
            · have HF := hid (feas_4 (xs := xs) (bs := bs) (cs := cs) (sg := sg) (nnB_false (ps := ps) (i := k) (by rw [HLL.out.2.2.2]; exact hlt) hneg))
              go_wp2_with fail
              go_ret
              exact ⟨by rw [HF.out]; rfl, HW.out.2.1.trans ((HB2.out).mono (by omega))⟩
            · go_wp2_with fail
              go_roundw
              case rel => exact ⟨k + 1, by go_num, by omega, hid (fun i hi => by
                by_cases e : i = k
                · subst e; exact ⟨HV.out, by omega⟩
                · exact HA.out i (by omega)), HB2⟩
              case measure => simp [intOf]; omega
        · obtain rfl : pn = k := by omega
          have H3 := hid (allV_true (xs := ps) (by rw [HLL.out.2.2.2]; exact fun i hi => (HA.out i hi).1))
          have H4 := hid (nnB_true (ps := ps) (by rw [HLL.out.2.2.2]; exact fun i hi => (HA.out i hi).2))
          have hzr := HB.out.size
          have b0wr : wr.cell? ⟨w.heap.size, 0, none⟩ = some (.slice a n c) := by rw [(bcell HB.out).1 _ _ hzl]; exact c0
          have b1wr : wr.cell? ⟨w.heap.size, 1, none⟩ = some (.slice ba bn bc) := by rw [(bcell HB.out).1 _ _ hzl]; exact c1
          have b2wr : wr.cell? ⟨w.heap.size, 2, none⟩ = some (.slice ca cn cc) := by rw [(bcell HB.out).1 _ _ hzl]; exact c2
          obtain ⟨k5, hk5⟩ : ∃ k, mvOK xs ps = k := ⟨_, rfl⟩
          have H5 := hid hk5; clear hk5
          cases k5 with
          | false =>
            have HF := hid (feas_5 (bs := bs) (cs := cs) (sg := sg) H5.out)
            go_wp2_with fail
            refine (specMV a n c xs pa pn pc ps _ (beMat HW.out.2.2.1.1 HB.out hhW) (by omega) (beRats HW.out.2.2.2 HB.out hhW') (by omega) (by omega)).mono ?_
            rintro e w3 ⟨ya, yn, yc, rfl, ho3, hb3⟩
            rw [H5.out]
            have hb3W := Below.calm HB.out hb3
            have b0w3 : w3.cell? ⟨w.heap.size, 0, none⟩ = some (.slice a n c) := by rw [(bcell hb3W).1 _ _ hzl]; exact c0
            have b1w3 : w3.cell? ⟨w.heap.size, 1, none⟩ = some (.slice ba bn bc) := by rw [(bcell hb3W).1 _ _ hzl]; exact c1
            have b2w3 : w3.cell? ⟨w.heap.size, 2, none⟩ = some (.slice ca cn cc) := by rw [(bcell hb3W).1 _ _ hzl]; exact c2
            have hz3 := hb3.size
            have HO3 := hid ho3; have HB3 := hid hb3W; clear ho3 hb3 hb3W
            clear b0wr b1wr b2wr
            go_wp2_with fail
            obtain rfl : yn = 0 := by have := HO3.out.len; rw [mvL_no H5.out] at this; simpa using this.symm
            go_loopw [10] (fun i wr => i = .int .i64 0 ∧ wr = w3) (fun i _ => 0 - (intOf i).toNat)
            case atStart => exact ⟨rfl, rfl⟩
            case round =>
              obtain ⟨rfl, rfl⟩ := hrel
              go_wp2_with fail
              go_ret
              exact ⟨by rw [HF.out]; rfl, HW.out.2.1.trans ((HB3.out).mono (by omega))⟩
          | true =>
            go_wp2_with fail
            refine (specMV a n c xs pa pn pc ps _ (beMat HW.out.2.2.1.1 HB.out hhW) (by omega) (beRats HW.out.2.2.2 HB.out hhW') (by omega) (by omega)).mono ?_
            rintro e w3 ⟨ya, yn, yc, rfl, ho3, hb3⟩
            rw [H5.out]
            have hb3W := Below.calm HB.out hb3
            have b0w3 : w3.cell? ⟨w.heap.size, 0, none⟩ = some (.slice a n c) := by rw [(bcell hb3W).1 _ _ hzl]; exact c0
            have b1w3 : w3.cell? ⟨w.heap.size, 1, none⟩ = some (.slice ba bn bc) := by rw [(bcell hb3W).1 _ _ hzl]; exact c1
            have b2w3 : w3.cell? ⟨w.heap.size, 2, none⟩ = some (.slice ca cn cc) := by rw [(bcell hb3W).1 _ _ hzl]; exact c2
            have hz3 := hb3.size
            have HO3 := hid ho3; have HB3 := hid hb3W; clear ho3 hb3 hb3W
            clear b0wr b1wr b2wr
            go_wp2_with fail
            obtain rfl : yn = n := by have := HO3.out.len; rw [mvL_yes H5.out, mvTo_len, HLL.out.1] at this; exact this.symm
            have hym : mvL xs ps = mvTo xs ps yn := by rw [mvL_yes H5.out, HLL.out.1]
            have hYR : RatsA true wr.heap.size w3.heap.size w3 ya yn yc (mvTo xs ps yn) := by rw [← hym]; exact HO3.out.rats
            have HY := hid hYR; clear hym hYR b0w3 b1w3 b2w3
            go_loopw [10] (fun i wq => ∃ k : Nat, i = .int .i64 k ∧ k ≤ yn ∧ Hid (∀ i, i < k → 0 ≤ sg * sideC xs bs ps i) ∧ Hid (Below w3.heap.size w3 wq)) (fun i _ => yn - (intOf i).toNat)
            case atStart => exact ⟨0, rfl, by omega, hid (fun i hi => by omega), hid (Below.refl _ _)⟩
            case round =>
              obtain ⟨k, rfl, hk, HS, HBq⟩ := hrel
              have HBW := hid (Below.calm HB3.out HBq.out)
              by_cases hlt : k < yn
              · have hzq := HBq.out.size
                have hYq := beRats HY.out HBq.out (Nat.le_refl _)
                have hBq := beRats HW.out.2.2.1.2.1 HBW.out hhW
                obtain ⟨b, off, rfl⟩ := ratsSome hYq (by omega)
                obtain ⟨g1, g2, i1, i2, d0, d1, _⟩ := ratsAt hYq hlt
                rw [mvTo_qx hlt] at i1 i2 d0 d1
                obtain ⟨b', off', rfl⟩ := ratsSome hBq (by have := HNB.out; omega)
                obtain ⟨g1', g2', i1', i2', d0', d1', _⟩ := ratsAt hBq (i := k) (by have := HNB.out; omega)
                obtain ⟨t, ht⟩ : ∃ t, sg * sideC xs bs ps k = t := ⟨_, rfl⟩
                obtain ⟨cv, hcv⟩ : ∃ t, sideC xs bs ps k = t := ⟨_, rfl⟩
                have hc3 : cv = -1 ∨ cv = 0 ∨ cv = 1 := by rw [← hcv]; exact cmpRat_3 _ _ _ _
                rw [hcv] at ht
                have htw : IntKind.i64.wrap (sg * cv) = t := by rw [IntWalk.i64_in _ (by rcases HSG.out with rfl | rfl <;> omega)]; exact ht
                have htw2 : IntKind.i64.wrap (cv * sg) = t := by rw [Int.mul_comm]; exact htw
                have htb : -1 ≤ t ∧ t ≤ 1 := by rcases HSG.out with rfl | rfl <;> omega
                have HT := hid (And.intro ht (And.intro hcv hc3)); clear ht hcv hc3
                have x0 : ∀ x : Later wr.heap.size wr, x.w.cell? ⟨b, off + k * 2, none⟩ = some (.int .i64 (dotR (mx xs k) ps).1) := fun x => x.cell d0 (by omega)
                have x1 : ∀ x : Later wr.heap.size wr, x.w.cell? ⟨b, off + k * 2 + 1, none⟩ = some (.int .i64 (dotR (mx xs k) ps).2.1) := fun x => x.cell d1 (by omega)
                have y0 : ∀ x : Later wr.heap.size wr, x.w.cell? ⟨b', off' + k * 2, none⟩ = some (.int .i64 (qx bs k).num) := fun x => x.cell d0' (by omega)
                have y1 : ∀ x : Later wr.heap.size wr, x.w.cell? ⟨b', off' + k * 2 + 1, none⟩ = some (.int .i64 (qx bs k).den) := fun x => x.cell d1' (by omega)
                have z1 : ∀ x : Later wr.heap.size wr, x.w.cell? ⟨w.heap.size, 1, none⟩ = some (.slice (some ⟨b', off', none⟩) bn bc) := fun x => x.cell (by rw [(bcell HBW.out).1 _ _ hzl]; exact c1) (by have := HBW.out.size; omega)
                have HXB := HBq
                have HC := hid (fun x : Later wr.heap.size wr => later_of x (Nat.le_refl _) (show Calls Try.prog 42 #[ratV (dotR (mx xs k) ps).1 (dotR (mx xs k) ps).2.1, ratV (qx bs k).num (qx bs k).den] x.w (Leaves x.w (.int .i64 cv)) by have := specCompareRationals (dotR (mx xs k) ps).1 (dotR (mx xs k) ps).2.1 (qx bs k).num (qx bs k).den x.w i1 i2 i1' i2'; rw [← HT.out.2.1]; exact this))
                have hnb2 : k < bn := by have := HNB.out; omega
                have HI := hid (And.intro (And.intro hYq hBq) (And.intro (And.intro i1 i2) (And.intro i1' i2'))); clear hYq hBq i1 i2 i1' i2' d0' d1' d0 d1
                by_cases hneg : t < 0
                · have HF := hid (feas_6 (cs := cs) (sideB_false (xs := xs) (bs := bs) (ps := ps) (sg := sg) (i := k) (by rw [HLL.out.1]; exact hlt) (by rw [HT.out.2.1, HT.out.1]; exact hneg)))
                  go_wp2_with fail
                  refine wp_region_later (B := wr.heap.size) (w0 := wr) (by kernel_rfl) (by kernel_rfl) (Below.refl _ _) ?_
                  repeat (any_goals (first | go_big_quiet_step (((go_at_call 42; exact HC.out _))) | quiet_step (((go_at_call 42; exact HC.out _)))))
                  refine wpQuiet_nil ?_
                  intro _ hw'
                  obtain ⟨nq, hw''⟩ := hw'
                  subst hw''
                  have HQ := hid nq.be
                  generalize nq.w = wz at *
                  have HBZ := hid (Below.trans HXB.out (HQ.out.mono (by have := HXB.out.size; omega)))
                  go_wp2_with fail
                  go_ret
                  exact ⟨by rw [HF.out]; rfl, HW.out.2.1.trans ((Below.calm HB3.out HBZ.out).mono (by omega))⟩
                · have HNG := hid hneg
                  go_wp2_with fail
                  refine wp_region_later (B := wr.heap.size) (w0 := wr) (by kernel_rfl) (by kernel_rfl) (Below.refl _ _) ?_
                  repeat (any_goals (first | go_big_quiet_step (((go_at_call 42; exact HC.out _))) | quiet_step (((go_at_call 42; exact HC.out _)))))
                  refine wpQuiet_nil ?_
                  intro _ hw'
                  obtain ⟨nq, hw''⟩ := hw'
                  subst hw''
                  have HQ := hid nq.be
                  generalize nq.w = wz at *
                  have HBZ := hid (Below.trans HXB.out (HQ.out.mono (by have := HXB.out.size; omega)))
                  go_wp2_with fail
                  go_roundw
                  case rel => exact ⟨k + 1, by go_num, by omega, hid (fun i hi => by
                    by_cases e : i = k
                    · subst e; have h1 := HNG.out; have h2 := HT.out.1; rw [← HT.out.2.1] at h2; omega
                    · exact HS.out i (by omega)), HBZ⟩
                  case measure => simp [intOf]; omega
              · obtain rfl : k = yn := by omega
                have HF := hid (feas_y H1.out (by rw [HLL.out.2.2.1, HLL.out.2.2.2]; exact H2.out) H3.out H4.out H5.out (sideB_true (xs := xs) (bs := bs) (ps := ps) (sg := sg) (by rw [HLL.out.1]; exact HS.out)))
                go_wp2_with fail
                go_ret
                exact ⟨by rw [HF.out]; rfl, HW.out.2.1.trans ((HBW.out).mono (by omega))⟩
    · have hne : ((pn : Int) != (cn : Int)) = true := by rw [bne_iff_ne]; omega
      have HF := hid (feas_2 (xs := xs) (bs := bs) (sg := sg) (show ps.length ≠ cs.length by rw [HLL.out.2.2.1, HLL.out.2.2.2]; exact h2))
      clear h2
      go_enter Try.func32, Try.ntmps32
      go_upto_region 1 with fail
      rw [← HW.out.1]
      go_wp2_with fail
      refine (specValidLP a n c xs ba bn bc bs ca cn cc cs _ HW.out.2.2.1 hhW).mono ?_
      rintro e w1 ⟨rfl, hb1⟩
      rw [H1.out]
      have b0w1 : w1.cell? ⟨w.heap.size, 0, none⟩ = some (.slice a n c) := by rw [(bcell hb1).1 _ _ hzl]; exact c0
      have b1w1 : w1.cell? ⟨w.heap.size, 1, none⟩ = some (.slice ba bn bc) := by rw [(bcell hb1).1 _ _ hzl]; exact c1
      have b2w1 : w1.cell? ⟨w.heap.size, 2, none⟩ = some (.slice ca cn cc) := by rw [(bcell hb1).1 _ _ hzl]; exact c2
      have HB1 := hid hb1; clear hb1
      go_wp2_with fail
      go_ret
      exact ⟨by rw [HF.out]; rfl, HW.out.2.1.trans ((HB1.out).mono (by omega))⟩
end Go.Proofs.Ytgannpmngkgejaa
