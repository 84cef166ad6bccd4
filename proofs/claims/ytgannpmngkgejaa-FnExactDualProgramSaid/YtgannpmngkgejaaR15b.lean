/- Walks: turning a valid matrix round, the reference. -/
import Derived.Test.YtgannpmngkgejaaR15
namespace Go.Proofs.Ytgannpmngkgejaa
set_option linter.unusedSimpArgs false
set_option linter.unusedVariables false
open Go.RowKit
set_option maxRecDepth 100000 in
set_option maxHeartbeats 12800000 in
theorem specTr {fz : Bool} {lo hi : Nat} (a : Option Addr) (n c : Nat) (xs : List (List RatD)) (m : Nat) (w : World) (hI : MatA fz lo hi w a n c xs) (hh : hi ≤ w.heap.size) (hv : matB xs m = true) (hn0 : 0 < n) (hn : n ≤ 1048576) (hm : m ≤ 1048576) :
    Calls Try.prog 22 #[.slice a n c] w (GivesTr w (trTo xs m)) := by
  have hl := hI.len
  have hrows : ∀ i, i < n → (mx xs i).length = m ∧ allV (mx xs i) = true := fun i hi => matB_out hv (by omega)
  have HV := hid (And.intro hv hrows); clear hv hrows
  have HL := hid hl; clear hl
  have hne0 : ((n : Int) == 0) = false := by simp; omega
  obtain ⟨b, off, rfl⟩ := matSome hI hn0
  obtain ⟨g1, g2, r0a, r0n, r0c, z0, hr0, _⟩ := matAt hI hn0
  obtain rfl : r0n = m := by have := hr0.len; rw [(HV.out.2 0 hn0).1] at this; exact this.symm
  have hms := hr0.small
  have z0w : w.cell? ⟨b, off, none⟩ = some (.slice r0a r0n r0c) := by simpa using z0
  have hbw : b < w.heap.size := by omega
  have HR0 := hid (And.intro hr0 z0); clear hr0 z0
  obtain ⟨W, hW⟩ : ∃ W, W = w.alloc (.cells #[] 28) := ⟨_, rfl⟩
  have hBW : Below w.heap.size w W := by rw [hW]; exact (by repeat (first | assumption | exact Below.refl _ _ | refine below_drewN ?_ _ | refine Below.al ?_ (by first | exact Nat.le_refl _ | omega | (simp; done) | (simp; omega)) _ | refine Below.setCell ?_ (by first | exact Nat.le_refl _ | omega | (simp; done) | (simp; omega)) _))
  have hgW : W.heap[w.heap.size]? = some (.cells #[] 28 (0, 0)) := by rw [hW]; exact heap_alloc_new _ _
  have hzW : w.heap.size + 1 = W.heap.size := by rw [hW]; simp
  have HW := hid (And.intro hW (And.intro hBW hgW)); clear hW hBW hgW
  have zW : W.cell? ⟨b, off, none⟩ = some (.slice r0a r0n r0c) := by rw [(bcell HW.out.2.1).1 _ _ hbw]; exact z0w
  have HZ := hid hzW; have hzl : w.heap.size < W.heap.size := by omega
  clear hzW
  go_enter Try.func22, Try.ntmps22
  go_upto_region 2 with fail
  rw [← HW.out.1]
  go_wp2_with fail
  refine (specSquare (some ⟨b, off, none⟩) n c xs n r0n _ (beMat hI HW.out.2.1 hh) (by omega) (by omega) (by omega)).mono ?_
  rintro e w1 ⟨rfl, hb1⟩
  rw [show sqB xs n r0n = true from by rw [sqB_yes HV.out.1, HL.out]; simp]
  have HB := hid (HW.out.2.1.trans (hb1.mono (by omega)))
  have HG := hid (ownV_empty 28 w1 w.heap.size w.heap.size (Nat.le_refl _) (by rw [hb1.block _ (by omega)]; exact HW.out.2.2))
  have hz1 : w.heap.size < w1.heap.size := by have := hb1.size; omega
  clear hb1
  have zw1 : w1.cell? ⟨b, off, none⟩ = some (.slice r0a r0n r0c) := by rw [(bcell HB.out).1 _ _ hbw]; exact z0w
  go_wp2_with fail
  go_loopw [5, 4, 6, 7] (fun i v _ _ wr => ∃ (q : Nat) (oo : Option Addr) (om oc : Nat) (vs : List Value), i = .int .i64 q ∧ v = .slice oo om oc ∧ q ≤ r0n ∧ Hid (OwnV 28 w.heap.size wr oo om oc vs ∧ SepV ratsQ w.heap.size wr.heap.size wr vs (trTo xs q)) ∧ Hid (Below w.heap.size w wr)) (fun i v _ _ _ => r0n - (intOf i).toNat)
  case atStart => exact ⟨0, _, 0, 0, [], rfl, rfl, by omega, hid ⟨HG.out, SepV.nil _ _ _ _⟩, HB⟩
  case round =>
    obtain ⟨q, oo, om, oc, vs, rfl, rfl, hq, HO, HBo⟩ := hrel
    have hom : om = q := by have h1 := HO.out.1.len; have h2 := HO.out.2.1; rw [trTo_len] at h2; omega
    have homb : om ≤ 1048576 := by omega
    have HOM := hid hom; clear hom
    obtain ⟨wo, hwo⟩ : ∃ wo : World, wo = wr := ⟨_, rfl⟩
    rw [← hwo] at HO HBo ⊢
    clear hwo
    have hzo := HBo.out.size
    have zwo : wo.cell? ⟨b, off, none⟩ = some (.slice r0a r0n r0c) := by rw [(bcell HBo.out).1 _ _ hbw]; exact z0w
    by_cases hqlt : q < r0n
    · go_wp2_with fail
      go_loopw [7, 6] (fun i v wr => ∃ (j : Nat) (ro : Option Addr) (rm rco : Nat), i = .int .i64 j ∧ v = .slice ro rm rco ∧ j ≤ n ∧ Hid (OwnR wo.heap.size wr ro rm rco (colTo xs q j)) ∧ Hid (Below wo.heap.size wo wr)) (fun i v _ => n - (intOf i).toNat)
      case atStart => exact ⟨0, _, 0, 0, rfl, rfl, by omega, hid (ownR_empty _ _ _ (Nat.le_refl _) (heap_alloc_new _ _)), hid (by repeat (first | assumption | exact Below.refl _ _ | refine below_drewN ?_ _ | refine Below.al ?_ (by first | exact Nat.le_refl _ | omega | (simp; done) | (simp; omega)) _ | refine Below.setCell ?_ (by first | exact Nat.le_refl _ | omega | (simp; done) | (simp; omega)) _))⟩
      case round =>
        obtain ⟨j, ro, rm, rco, rfl, rfl, hj, HR, HBr⟩ := hrel
        have hrmj : rm = j := by have h1 := HR.out.len; rw [colTo_len] at h1; exact h1.symm
        have hrmb : rm ≤ 1048576 := by omega
        have HRM := hid hrmj; clear hrmj
        have hzr := HBr.out.size
        by_cases hjlt : j < n
        · have hIr := beMat hI (Below.calm HBo.out HBr.out) hh
          obtain ⟨_, _, ra, rn, rc, d0, hr, _⟩ := matAt hIr hjlt
          obtain rfl : r0n = rn := by have := hr.len; rw [(HV.out.2 j hjlt).1] at this; exact this
          obtain ⟨rb, roff, rfl⟩ := ratsSome hr (by omega)
          obtain ⟨_, _, i1, i2, e0, e1, _⟩ := ratsAt hr hqlt
          have HI := hid (And.intro (And.intro hIr hr) (And.intro i1 i2)); clear hIr hr i1 i2
          go_wp2_with (at_builtin; refine wpAppF elemRat rfl (.tmp 39) (.tmp 47) rfl wo.heap.size ro rm rco _ rfl (HR.out.alloc _).1 _ 1 1 (flatR [⟨(qx (mx xs j) q).num, (qx (mx xs j) q).den⟩]) rfl (rats_one _ _ ⟨(qx (mx xs j) q).num, (qx (mx xs j) q).den⟩ 0 _ (Nat.zero_le _) (Nat.lt_succ_self _) (heap_alloc_new _ _)) (by omega) (by first | omega | (simp; omega)) ?_)
          intro a1 c1' w5 ho2 hg2
          have hb5 : Below wo.heap.size wo w5 := HR.out.grow1 HBr.out (Nat.le_refl _) (by omega) hg2
          have HO5 := hid (ownR_mk ho2 HR.out.2 HI.out.2); clear ho2 hg2
          have HB5 := hid hb5; clear hb5
          go_wp2_with fail
          go_roundw
          case rel => exact ⟨j + 1, a1, rm + 1, c1', by go_num, rfl, by omega, hid (by rw [colTo_succ]; exact HO5.out), HB5⟩
          case measure => simp [intOf]; omega
        · obtain rfl : n = j := by omega
          have hov : OwnV 28 w.heap.size wr oo om oc vs := HO.out.1.keep (Keeps.of_below HBr.out (Nat.le_refl _))
          have hsv : SepV ratsQ w.heap.size wo.heap.size wr vs (trTo xs q) := HO.out.2.keep ratsQOK (Keeps.of_below HBr.out (Nat.le_refl _))
          have HOV := hid (And.intro hov hsv); clear hov hsv
          go_wp2_with (at_builtin; refine wpAppV elemMat rfl (.tmp 49) (.tmp 51) rfl w.heap.size oo om oc vs rfl (HOV.out.1.alloc _) _ 1 1 [.slice ro rm rco] rfl (vals_one _ _ 28 _ rfl 0 _ (Nat.zero_le _) (Nat.lt_succ_self _) (heap_alloc_new _ _)) (by omega) (by first | omega | (simp; omega)) ?_)
          intro a1 c1' w5 ho2 hg2
          have hb5 : Below w.heap.size w w5 := HOV.out.1.grow1 (Below.calm HBo.out HBr.out) (Nat.le_refl _) (by omega) hg2
          have hz5 := hg2.size; simp at hz5
          obtain ⟨s, t, h1, h2, h3, h4⟩ := HR.out.headR (by omega)
          have hkk := grown_later HO.out.1 hg2 (s := s) (t := t) (by omega) (by simp; omega)
          have hrow : ratsQ s t w5 ro rm rco (colTo xs q n) := kpRats (SlA.al ratRep (hgRats h3 (Nat.le_refl _)) h2 _) hkk
          have hd5 : HeadI w5 s t := (h4.keep (Keeps.al (Keeps.refl s t _) h2 _) (Nat.le_refl _) (Nat.le_refl _)).keep hkk (Nat.le_refl _) (Nat.le_refl _)
          have hsv5 : SepV ratsQ w.heap.size wo.heap.size w5 vs (trTo xs q) := SepV.grown ratsQOK (SepV.keep ratsQOK HOV.out.2 (Keeps.al (Keeps.refl _ _ _) (by omega) _)) (HOV.out.1.alloc _) hg2 (by simp; omega)
          have HS5 := hid (hsv5.snoc (hi' := w5.heap.size) hrow hd5 (by omega) h1 (by omega) (by omega))
          have HO5 := hid ho2; have HB5 := hid hb5
          clear ho2 hg2 hb5 hz5 h1 h2 h3 h4 hkk hrow hd5 hsv5
          go_wp2_with fail
          go_roundw
          case rel => exact ⟨q + 1, a1, om + 1, c1', _, by go_num, rfl, by omega, hid ⟨HO5.out, by rw [trTo_succ, HL.out]; exact HS5.out⟩, HB5⟩
          case measure => simp [intOf]; omega
    · obtain rfl : r0n = q := by omega
      go_wp2_with fail
      go_ret2
      exact ⟨_, _, _, rfl, SepA.own HO.out.1 HO.out.2, HBo.out⟩
end Go.Proofs.Ytgannpmngkgejaa
