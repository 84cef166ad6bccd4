/- The walk of the atoms with a variable, both sides. -/
import Derived.Test.YtalfldflnacpeaaB4
namespace Go.Proofs.Ytalfldflnacpeaa
set_option linter.unusedSimpArgs false
set_option linter.unusedVariables false
open Go.RowKit
/-- the places, among the first k atoms, of those that hold v -/
noncomputable def awTo (xs : List AtomD) (v : Int) (k : Nat) : List Int := ((List.range k).filter fun i => occ (ax xs i).vs v).map fun (i : Nat) => (i : Int)
theorem awTo_len (xs : List AtomD) (v : Int) (k : Nat) : (awTo xs v k).length ≤ k := by
  have := List.length_filter_le (fun i => occ (ax xs i).vs v) (List.range k)
  simpa [awTo] using this
theorem awTo_put {xs : List AtomD} {v : Int} {k : Nat} (h : occ (ax xs k).vs v = true) : awTo xs v (k + 1) = awTo xs v k ++ [(k : Int)] := by simp [awTo, List.range_succ, List.filter_append, h]
theorem awTo_keep {xs : List AtomD} {v : Int} {k : Nat} (h : occ (ax xs k).vs v = false) : awTo xs v (k + 1) = awTo xs v k := by simp [awTo, List.range_succ, List.filter_append, h]
/-- what AtomsWithVariable returns -/
noncomputable def awF (nv : Int) (xs : List AtomD) (us : List Int) (v : Int) : List Int := if qOK nv xs us = true then awTo xs v xs.length else []
theorem awF_no {nv : Int} {xs : List AtomD} {us : List Int} {v : Int} (h : qOK nv xs us = false) : awF nv xs us v = [] := by simp [awF, h]
theorem awF_yes {nv : Int} {xs : List AtomD} {us : List Int} {v : Int} (h : qOK nv xs us = true) : awF nv xs us v = awTo xs v xs.length := by simp [awF, h]
theorem awF_len (nv : Int) (xs : List AtomD) (us : List Int) (v : Int) : (awF nv xs us v).length ≤ 4 := by
  unfold awF
  split
  · next h => have := (qOK_out h).1.2.2; have := awTo_len xs v xs.length; omega
  · simp
set_option maxHeartbeats 3200000 in
theorem implAtomsWith {fz : Bool} {lo hi : Nat} (nv : Int) (a : Option Addr) (n c : Nat) (xs : List AtomD) (ua : Option Addr) (un uc : Nat) (us : List Int) (v : Int) (w : World) (hI : QueryA fz lo hi w nv a n c xs ua un uc us) (hh : hi ≤ w.heap.size) :
    Calls Try.prog 9 #[queryV nv a n c ua un uc, .int .i64 v] w (GivesOwn w (awF nv xs us v)) := by
  have hlx := hI.2.1.len
  have HI := hid hI; clear hI
  obtain ⟨q, hq⟩ : ∃ q, qOK nv xs us = q := ⟨_, rfl⟩
  have HQ := hid hq; clear hq
  cases q with
  | false =>
    have HF := hid (awF_no (v := v) HQ.out)
    go_enter Try.func9, Try.ntmps9
    go_wp2_with fail
    refine (implValidQ nv a n c xs ua un uc us _ (beQuery (B := w.heap.size) HI.out (by repeat (first | with_reducible assumption | with_reducible exact Below.refl _ _ | with_reducible refine below_drewN ?_ _ | with_reducible refine Below.al ?_ (by first | with_reducible exact Nat.le_refl _ | omega | (simp; done) | (simp; omega) | exact Nat.le_refl _) _ | with_reducible refine Below.setCell ?_ (by first | with_reducible exact Nat.le_refl _ | omega | (simp; done) | (simp; omega) | exact Nat.le_refl _) _ | assumption | exact Below.refl _ _ | refine below_drewN ?_ _ | refine Below.al ?_ (by first | with_reducible exact Nat.le_refl _ | omega | (simp; done) | (simp; omega) | exact Nat.le_refl _) _ | refine Below.setCell ?_ (by first | with_reducible exact Nat.le_refl _ | omega | (simp; done) | (simp; omega) | exact Nat.le_refl _) _)) hh) (by first | with_reducible exact Nat.le_refl _ | omega | (simp; done) | (simp; omega) | exact Nat.le_refl _)).mono ?_
    rintro e w1 ⟨rfl, hb1⟩
    rw [HQ.out]
    have HB := hid (Below.trans (b := w.alloc (.cells #[.int .i64 nv, .slice a n c, .slice ua un uc] 27)) (B := w.heap.size) (a := w) (by repeat (first | with_reducible assumption | with_reducible exact Below.refl _ _ | with_reducible refine below_drewN ?_ _ | with_reducible refine Below.al ?_ (by first | with_reducible exact Nat.le_refl _ | omega | (simp; done) | (simp; omega) | exact Nat.le_refl _) _ | with_reducible refine Below.setCell ?_ (by first | with_reducible exact Nat.le_refl _ | omega | (simp; done) | (simp; omega) | exact Nat.le_refl _) _ | assumption | exact Below.refl _ _ | refine below_drewN ?_ _ | refine Below.al ?_ (by first | with_reducible exact Nat.le_refl _ | omega | (simp; done) | (simp; omega) | exact Nat.le_refl _) _ | refine Below.setCell ?_ (by first | with_reducible exact Nat.le_refl _ | omega | (simp; done) | (simp; omega) | exact Nat.le_refl _) _)) (hb1.mono (by first | with_reducible exact Nat.le_refl _ | omega | (simp; done) | (simp; omega) | exact Nat.le_refl _))); clear hb1
    go_wp2_with fail
    go_ret
    rw [HF.out]
    exact ⟨_, _, _, rfl, own_nil _ _, HB.out⟩
  | true =>
    have hn := (qOK_out HQ.out).1.2
    have hn4 : n ≤ 4 := by omega
    have hn1 : 1 ≤ n := by omega
    have HL := hid hlx
    clear hn hlx
    have HF := hid (awF_yes (v := v) HQ.out)
    go_enter Try.func9, Try.ntmps9
    go_wp2_with fail
    refine (implValidQ nv a n c xs ua un uc us _ (beQuery (B := w.heap.size) HI.out (by repeat (first | with_reducible assumption | with_reducible exact Below.refl _ _ | with_reducible refine below_drewN ?_ _ | with_reducible refine Below.al ?_ (by first | with_reducible exact Nat.le_refl _ | omega | (simp; done) | (simp; omega) | exact Nat.le_refl _) _ | with_reducible refine Below.setCell ?_ (by first | with_reducible exact Nat.le_refl _ | omega | (simp; done) | (simp; omega) | exact Nat.le_refl _) _ | assumption | exact Below.refl _ _ | refine below_drewN ?_ _ | refine Below.al ?_ (by first | with_reducible exact Nat.le_refl _ | omega | (simp; done) | (simp; omega) | exact Nat.le_refl _) _ | refine Below.setCell ?_ (by first | with_reducible exact Nat.le_refl _ | omega | (simp; done) | (simp; omega) | exact Nat.le_refl _) _)) hh) (by first | with_reducible exact Nat.le_refl _ | omega | (simp; done) | (simp; omega) | exact Nat.le_refl _)).mono ?_
    rintro e w1 ⟨rfl, hb1⟩
    rw [HQ.out]
    have c1 : w1.cell? ⟨w.heap.size, 1, none⟩ = some (.slice a n c) := (by rw [(bcell hb1).1 _ _ (by first | omega | (simp; done) | (simp; omega))]; first | with_reducible assumption | (go_simp; done) | assumption | (simp [World.cell?]; done))
    have hz1 : w.heap.size < w1.heap.size := World.block_lt_of_cell? _ _ c1
    have HB := hid (Below.trans (b := w.alloc (.cells #[.int .i64 nv, .slice a n c, .slice ua un uc] 27)) (B := w.heap.size) (a := w) (by repeat (first | with_reducible assumption | with_reducible exact Below.refl _ _ | with_reducible refine below_drewN ?_ _ | with_reducible refine Below.al ?_ (by first | with_reducible exact Nat.le_refl _ | omega | (simp; done) | (simp; omega) | exact Nat.le_refl _) _ | with_reducible refine Below.setCell ?_ (by first | with_reducible exact Nat.le_refl _ | omega | (simp; done) | (simp; omega) | exact Nat.le_refl _) _ | assumption | exact Below.refl _ _ | refine below_drewN ?_ _ | refine Below.al ?_ (by first | with_reducible exact Nat.le_refl _ | omega | (simp; done) | (simp; omega) | exact Nat.le_refl _) _ | refine Below.setCell ?_ (by first | with_reducible exact Nat.le_refl _ | omega | (simp; done) | (simp; omega) | exact Nat.le_refl _) _)) (hb1.mono (by first | with_reducible exact Nat.le_refl _ | omega | (simp; done) | (simp; omega) | exact Nat.le_refl _))); clear hb1
    go_wp2_with fail
    go_loopw [5, 14] (fun s i wr => ∃ (k : Nat) (ao : Option Addr) (m' co : Nat), i = .int .i64 k ∧ s = .slice ao m' co ∧ k ≤ n ∧ Own w1.heap.size wr ao m' co (awTo xs v k) ∧ Below w1.heap.size w1 wr) (fun _ i _ => n - (intOf i).toNat)
    case atStart => exact ⟨0, _, 0, 0, rfl, rfl, by omega, own_nil _ _, Below.refl _ _⟩
    case round =>
      obtain ⟨k, ao, m', co, rfl, rfl, hk, hown, hbel⟩ := hrel
      have hm' : m' ≤ k := by have g1 := hown.len; have g2 := awTo_len xs v k; omega
      have hzw := hbel.size
      have hhr : hi ≤ wr.heap.size := by omega
      have HI64 : Hid (I64 (k : Int)) := hid (by unfold I64; omega)
      have HO := hid hown; clear hown
      have HBL := hid hbel; clear hbel
      by_cases hlt : k < n
      · have hAr := beAtoms HI.out.2.1 (HB.out.trans (HBL.out.mono (show w.heap.size ≤ w1.heap.size by omega))) hh
        obtain ⟨b, off, rfl⟩ := atomsSome hAr (by omega)
        obtain ⟨_, _, _, ra, rn, rc, d0, d1, hr, _⟩ := atomsAt hAr hlt
        have HR := hid hr; clear hAr hr
        obtain ⟨nm, hnm⟩ : ∃ nm, nm = (ax xs k).nm := ⟨_, rfl⟩
        rw [← hnm] at d0
        clear hnm
        obtain ⟨eb, heb⟩ : ∃ eb, occ (ax xs k).vs v = eb := ⟨_, rfl⟩
        have HEB := hid heb; clear heb
        cases eb with
        | true =>
          go_wp2_with fail
          refine (implHasVar nm ra rn rc (ax xs k).vs v _ (beInts (B := wr.heap.size) HR.out (by repeat (first | with_reducible assumption | with_reducible exact Below.refl _ _ | with_reducible refine below_drewN ?_ _ | with_reducible refine Below.al ?_ (by first | with_reducible exact Nat.le_refl _ | omega | (simp; done) | (simp; omega) | exact Nat.le_refl _) _ | with_reducible refine Below.setCell ?_ (by first | with_reducible exact Nat.le_refl _ | omega | (simp; done) | (simp; omega) | exact Nat.le_refl _) _ | assumption | exact Below.refl _ _ | refine below_drewN ?_ _ | refine Below.al ?_ (by first | with_reducible exact Nat.le_refl _ | omega | (simp; done) | (simp; omega) | exact Nat.le_refl _) _ | refine Below.setCell ?_ (by first | with_reducible exact Nat.le_refl _ | omega | (simp; done) | (simp; omega) | exact Nat.le_refl _) _)) hhr) (by first | with_reducible exact Nat.le_refl _ | omega | (simp; done) | (simp; omega) | exact Nat.le_refl _)).mono ?_
          rintro e w3 ⟨rfl, hb3⟩
          rw [HEB.out]
          have hb6 : Below wr.heap.size wr w3 := Below.trans (by repeat (first | with_reducible assumption | with_reducible exact Below.refl _ _ | with_reducible refine below_drewN ?_ _ | with_reducible refine Below.al ?_ (by first | with_reducible exact Nat.le_refl _ | omega | (simp; done) | (simp; omega) | exact Nat.le_refl _) _ | with_reducible refine Below.setCell ?_ (by first | with_reducible exact Nat.le_refl _ | omega | (simp; done) | (simp; omega) | exact Nat.le_refl _) _ | assumption | exact Below.refl _ _ | refine below_drewN ?_ _ | refine Below.al ?_ (by first | with_reducible exact Nat.le_refl _ | omega | (simp; done) | (simp; omega) | exact Nat.le_refl _) _ | refine Below.setCell ?_ (by first | with_reducible exact Nat.le_refl _ | omega | (simp; done) | (simp; omega) | exact Nat.le_refl _) _)) (hb3.mono (by first | with_reducible exact Nat.le_refl _ | omega | (simp; done) | (simp; omega) | exact Nat.le_refl _))
          have hz3 := hb6.size
          have HO3 := hid (HO.out.keep (Keeps.of_below hb6 (Nat.le_refl _)))
          have HB3 := hid (HBL.out.trans (hb6.mono (by omega)))
          clear hb3 hb6
          go_wp2_with (at_builtin; refine wpApp rfl (.tmp 22) (.tmp 24) rfl w1.heap.size ao m' co _ rfl (HO3.out.alloc _) _ 1 1 _ rfl (one_ints _ _ _ HI64.out) (by omega) (by simp; omega) ?_)
          intro a1 c1' w5 ho2 hg2
          have hb2 : Below w1.heap.size w1 w5 := ho0' HO3.out HB3.out (by omega) hg2
          have HO2 := hid ho2; clear ho2
          have HB2 := hid hb2; clear hb2 hg2
          go_wp2
          go_roundw
          case rel => exact ⟨k + 1, a1, m' + 1, c1', by go_num, rfl, by omega, by rw [awTo_put HEB.out]; exact HO2.out, HB2.out⟩
          case measure => simp [intOf]; omega
        | false =>
          go_wp2_with fail
          refine (implHasVar nm ra rn rc (ax xs k).vs v _ (beInts (B := wr.heap.size) HR.out (by repeat (first | with_reducible assumption | with_reducible exact Below.refl _ _ | with_reducible refine below_drewN ?_ _ | with_reducible refine Below.al ?_ (by first | with_reducible exact Nat.le_refl _ | omega | (simp; done) | (simp; omega) | exact Nat.le_refl _) _ | with_reducible refine Below.setCell ?_ (by first | with_reducible exact Nat.le_refl _ | omega | (simp; done) | (simp; omega) | exact Nat.le_refl _) _ | assumption | exact Below.refl _ _ | refine below_drewN ?_ _ | refine Below.al ?_ (by first | with_reducible exact Nat.le_refl _ | omega | (simp; done) | (simp; omega) | exact Nat.le_refl _) _ | refine Below.setCell ?_ (by first | with_reducible exact Nat.le_refl _ | omega | (simp; done) | (simp; omega) | exact Nat.le_refl _) _)) hhr) (by first | with_reducible exact Nat.le_refl _ | omega | (simp; done) | (simp; omega) | exact Nat.le_refl _)).mono ?_
          rintro e w3 ⟨rfl, hb3⟩
          rw [HEB.out]
          have hb6 : Below wr.heap.size wr w3 := Below.trans (by repeat (first | with_reducible assumption | with_reducible exact Below.refl _ _ | with_reducible refine below_drewN ?_ _ | with_reducible refine Below.al ?_ (by first | with_reducible exact Nat.le_refl _ | omega | (simp; done) | (simp; omega) | exact Nat.le_refl _) _ | with_reducible refine Below.setCell ?_ (by first | with_reducible exact Nat.le_refl _ | omega | (simp; done) | (simp; omega) | exact Nat.le_refl _) _ | assumption | exact Below.refl _ _ | refine below_drewN ?_ _ | refine Below.al ?_ (by first | with_reducible exact Nat.le_refl _ | omega | (simp; done) | (simp; omega) | exact Nat.le_refl _) _ | refine Below.setCell ?_ (by first | with_reducible exact Nat.le_refl _ | omega | (simp; done) | (simp; omega) | exact Nat.le_refl _) _)) (hb3.mono (by first | with_reducible exact Nat.le_refl _ | omega | (simp; done) | (simp; omega) | exact Nat.le_refl _))
          have hz3 := hb6.size
          have HO3 := hid (HO.out.keep (Keeps.of_below hb6 (Nat.le_refl _)))
          have HB3 := hid (HBL.out.trans (hb6.mono (by omega)))
          clear hb3 hb6
          go_wp2_with fail
          go_roundw
          case rel => exact ⟨k + 1, ao, m', co, by go_num, rfl, by omega, by rw [awTo_keep HEB.out]; exact HO3.out, HB3.out⟩
          case measure => simp [intOf]; omega
      · go_wp2_with fail
        go_ret
        obtain rfl : k = n := by omega
        rw [HF.out, HL.out]
        exact ⟨_, _, _, rfl, HO.out.low (by omega), HB.out.trans (HBL.out.mono (by omega))⟩
/- The walk of the degree of a variable, both sides. -/
/-- what VariableDegree returns -/
noncomputable def degF (nv : Int) (xs : List AtomD) (us : List Int) (v : Int) : Nat := (awF nv xs us v).length
theorem degF_no {nv : Int} {xs : List AtomD} {us : List Int} {v : Int} (h : qOK nv xs us = false) : degF nv xs us v = 0 := by simp [degF, awF_no h]
theorem degF_yes {nv : Int} {xs : List AtomD} {us : List Int} {v : Int} (h : qOK nv xs us = true) : degF nv xs us v = (awTo xs v xs.length).length := by simp [degF, awF_yes h]
theorem degF_le (nv : Int) (xs : List AtomD) (us : List Int) (v : Int) : degF nv xs us v ≤ 4 := awF_len nv xs us v
set_option maxHeartbeats 1600000 in
theorem implDeg {fz : Bool} {lo hi : Nat} (nv : Int) (a : Option Addr) (n c : Nat) (xs : List AtomD) (ua : Option Addr) (un uc : Nat) (us : List Int) (v : Int) (w : World) (hI : QueryA fz lo hi w nv a n c xs ua un uc us) (hh : hi ≤ w.heap.size) :
    Calls Try.prog 12 #[queryV nv a n c ua un uc, .int .i64 v] w (Leaves w (.int .i64 (degF nv xs us v))) := by
  have HI := hid hI; clear hI
  go_enter Try.func12, Try.ntmps12
  go_wp2_with fail
  refine (implAtomsWith nv a n c xs ua un uc us v _ (beQuery (B := w.heap.size) HI.out (by repeat (first | with_reducible assumption | with_reducible exact Below.refl _ _ | with_reducible refine below_drewN ?_ _ | with_reducible refine Below.al ?_ (by first | with_reducible exact Nat.le_refl _ | omega | (simp; done) | (simp; omega) | exact Nat.le_refl _) _ | with_reducible refine Below.setCell ?_ (by first | with_reducible exact Nat.le_refl _ | omega | (simp; done) | (simp; omega) | exact Nat.le_refl _) _ | assumption | exact Below.refl _ _ | refine below_drewN ?_ _ | refine Below.al ?_ (by first | with_reducible exact Nat.le_refl _ | omega | (simp; done) | (simp; omega) | exact Nat.le_refl _) _ | refine Below.setCell ?_ (by first | with_reducible exact Nat.le_refl _ | omega | (simp; done) | (simp; omega) | exact Nat.le_refl _) _)) hh) (by first | with_reducible exact Nat.le_refl _ | omega | (simp; done) | (simp; omega) | exact Nat.le_refl _)).mono ?_
  rintro e w1 ⟨a1, n1, c1', rfl, ho, hb1⟩
  have HE := hid (show degF nv xs us v = n1 from ho.len)
  have HB := hid (Below.trans (b := w.alloc (.cells #[.int .i64 nv, .slice a n c, .slice ua un uc] 27)) (B := w.heap.size) (a := w) (by repeat (first | with_reducible assumption | with_reducible exact Below.refl _ _ | with_reducible refine below_drewN ?_ _ | with_reducible refine Below.al ?_ (by first | with_reducible exact Nat.le_refl _ | omega | (simp; done) | (simp; omega) | exact Nat.le_refl _) _ | with_reducible refine Below.setCell ?_ (by first | with_reducible exact Nat.le_refl _ | omega | (simp; done) | (simp; omega) | exact Nat.le_refl _) _ | assumption | exact Below.refl _ _ | refine below_drewN ?_ _ | refine Below.al ?_ (by first | with_reducible exact Nat.le_refl _ | omega | (simp; done) | (simp; omega) | exact Nat.le_refl _) _ | refine Below.setCell ?_ (by first | with_reducible exact Nat.le_refl _ | omega | (simp; done) | (simp; omega) | exact Nat.le_refl _) _)) (hb1.mono (by first | with_reducible exact Nat.le_refl _ | omega | (simp; done) | (simp; omega) | exact Nat.le_refl _))); clear hb1 ho
  go_wp2_with fail
  go_ret
  exact ⟨by rw [HE.out]; rfl, HB.out⟩
set_option maxHeartbeats 3200000 in
theorem specDeg {fz : Bool} {lo hi : Nat} (nv : Int) (a : Option Addr) (n c : Nat) (xs : List AtomD) (ua : Option Addr) (un uc : Nat) (us : List Int) (v : Int) (w : World) (hI : QueryA fz lo hi w nv a n c xs ua un uc us) (hh : hi ≤ w.heap.size) :
    Calls Try.prog 55 #[queryV nv a n c ua un uc, .int .i64 v] w (Leaves w (.int .i64 (degF nv xs us v))) := by
  have hlx := hI.2.1.len
  have hsx := hI.2.1.small
  obtain ⟨W, hW⟩ : ∃ W, W = w.alloc (.cells #[.int .i64 nv, .slice a n c, .slice ua un uc] 27) := ⟨_, rfl⟩
  have hBW : Below w.heap.size w W := by rw [hW]; exact (by repeat (first | with_reducible assumption | with_reducible exact Below.refl _ _ | with_reducible refine below_drewN ?_ _ | with_reducible refine Below.al ?_ (by first | with_reducible exact Nat.le_refl _ | omega | (simp; done) | (simp; omega) | exact Nat.le_refl _) _ | with_reducible refine Below.setCell ?_ (by first | with_reducible exact Nat.le_refl _ | omega | (simp; done) | (simp; omega) | exact Nat.le_refl _) _ | assumption | exact Below.refl _ _ | refine below_drewN ?_ _ | refine Below.al ?_ (by first | with_reducible exact Nat.le_refl _ | omega | (simp; done) | (simp; omega) | exact Nat.le_refl _) _ | refine Below.setCell ?_ (by first | with_reducible exact Nat.le_refl _ | omega | (simp; done) | (simp; omega) | exact Nat.le_refl _) _))
  have hz : w.heap.size < W.heap.size := by rw [hW]; simp
  have c0 : W.cell? ⟨w.heap.size, 0, none⟩ = some (.int .i64 nv) := by rw [hW]; simp
  have c1 : W.cell? ⟨w.heap.size, 1, none⟩ = some (.slice a n c) := by rw [hW]; simp
  have c2 : W.cell? ⟨w.heap.size, 2, none⟩ = some (.slice ua un uc) := by rw [hW]; simp
  have HI := hid (beQuery hI hBW hh)
  have HW := hid (And.intro hW hBW); clear hW hBW hI
  obtain ⟨q, hq⟩ : ∃ q, qOK nv xs us = q := ⟨_, rfl⟩
  have HQ := hid hq; clear hq
  cases q with
  | false =>
    have HF := hid (degF_no (v := v) HQ.out)
    clear hlx
    by_cases hp : 0 < n
    · go_enter Try.func55, Try.ntmps55
      go_upto_region 1 with fail
      rw [← HW.out.1]
      go_wp2_with fail
      go_loopw [5, 6] (fun s i wr => i = .int .i64 0 ∧ s = .int .i64 0 ∧ wr = W) (fun _ i _ => 1 - (intOf i).toNat)
      case atStart => exact ⟨rfl, rfl, rfl⟩
      case round =>
        obtain ⟨rfl, rfl, rfl⟩ := hrel
        go_wp2_with fail
        refine (specValidQ nv a n c xs ua un uc us _ HI.out (by omega)).mono ?_
        rintro e w1 ⟨rfl, hb1⟩
        rw [HQ.out]
        have HB := hid hb1; clear hb1
        go_wp2_with fail
        go_ret
        exact ⟨by rw [HF.out]; rfl, HW.out.2.trans (HB.out.mono (by omega))⟩
    · obtain rfl : n = 0 := by omega
      go_enter Try.func55, Try.ntmps55
      go_upto_region 1 with fail
      rw [← HW.out.1]
      go_wp2_with fail
      go_loopw [5, 6] (fun s i wr => i = .int .i64 0 ∧ s = .int .i64 0 ∧ wr = W) (fun _ i _ => 1 - (intOf i).toNat)
      case atStart => exact ⟨rfl, rfl, rfl⟩
      case round =>
        obtain ⟨rfl, rfl, rfl⟩ := hrel
        go_wp2_with fail
        go_ret
        exact ⟨by rw [HF.out]; rfl, HW.out.2⟩
  | true =>
    have hn := (qOK_out HQ.out).1.2
    have hn4 : n ≤ 4 := by omega
    have hn1 : 1 ≤ n := by omega
    have HL := hid hlx
    clear hn hlx
    have HF := hid (degF_yes (v := v) HQ.out)
    go_enter Try.func55, Try.ntmps55
    go_upto_region 1 with fail
    rw [← HW.out.1]
    go_wp2_with fail
    go_loopw [5, 6] (fun s i wr => ∃ (k d : Nat), i = .int .i64 k ∧ s = .int .i64 d ∧ k ≤ n ∧ d ≤ k ∧ Hid ((awTo xs v k).length = d) ∧ Hid (Below W.heap.size W wr)) (fun _ i _ => n - (intOf i).toNat)
    case atStart => exact ⟨0, 0, rfl, rfl, by omega, by omega, hid (by simp [awTo]), hid (Below.refl _ _)⟩
    case round =>
      obtain ⟨k, d, rfl, rfl, hk, hd, HD, HB⟩ := hrel
      have hzw := HB.out.size
      have k0 : wr.cell? ⟨w.heap.size, 0, none⟩ = some (.int .i64 nv) := by rw [(bcell HB.out).1 _ _ hz]; exact c0
      have k1 : wr.cell? ⟨w.heap.size, 1, none⟩ = some (.slice a n c) := by rw [(bcell HB.out).1 _ _ hz]; exact c1
      have k2 : wr.cell? ⟨w.heap.size, 2, none⟩ = some (.slice ua un uc) := by rw [(bcell HB.out).1 _ _ hz]; exact c2
      have HIr := hid (beQuery HI.out HB.out (by omega))
      by_cases hlt : k < n
      · go_wp2_with fail
        refine (specValidQ nv a n c xs ua un uc us _ HIr.out (by omega)).mono ?_
        rintro e w3 ⟨rfl, hb3⟩
        rw [HQ.out]
        have hz3 := hb3.size
        have hhr : hi ≤ w3.heap.size := by omega
        have hAr := beAtoms HIr.out.2.1 hb3 (by omega)
        obtain ⟨b, off, rfl⟩ := atomsSome hAr (by omega)
        obtain ⟨_, _, _, ra, rn, rc, d0, d1, hr, _⟩ := atomsAt hAr hlt
        have HR := hid hr; clear hAr hr
        obtain ⟨nm, hnm⟩ : ∃ nm, nm = (ax xs k).nm := ⟨_, rfl⟩
        rw [← hnm] at d0
        clear hnm
        replace k1 : w3.cell? ⟨w.heap.size, 1, none⟩ = some (.slice (some ⟨b, off, none⟩) n c) := by rw [(bcell hb3).1 _ _ (by omega)]; exact k1
        have HB3 := hid (Below.calm HB.out hb3)
        clear hb3
        obtain ⟨eb, heb⟩ : ∃ eb, occ (ax xs k).vs v = eb := ⟨_, rfl⟩
        have HEB := hid heb; clear heb
        cases eb with
        | true =>
          have HD2 := hid (show (awTo xs v (k + 1)).length = d + 1 by rw [awTo_put HEB.out, List.length_append, HD.out]; rfl)
          go_wp2_with fail
          refine (specHasVar nm ra rn rc (ax xs k).vs v _ HR.out hhr).mono ?_
          rintro e w4 ⟨rfl, hb4⟩
          rw [HEB.out]
          have HB4 := hid (Below.calm HB3.out hb4)
          clear hb4
          go_wp2_with fail
          go_roundw
          case rel => exact ⟨k + 1, d + 1, by go_num, by go_num, by omega, by omega, HD2, HB4⟩
          case measure => simp [intOf]; omega
        | false =>
          have HD2 := hid (show (awTo xs v (k + 1)).length = d by rw [awTo_keep HEB.out]; exact HD.out)
          go_wp2_with fail
          refine (specHasVar nm ra rn rc (ax xs k).vs v _ HR.out hhr).mono ?_
          rintro e w4 ⟨rfl, hb4⟩
          rw [HEB.out]
          have HB4 := hid (Below.calm HB3.out hb4)
          clear hb4
          go_wp2_with fail
          go_roundw
          case rel => exact ⟨k + 1, d, by go_num, rfl, by omega, by omega, HD2, HB4⟩
          case measure => simp [intOf]; omega
      · have HE := hid (show degF nv xs us v = d by rw [HF.out, HL.out, ← HD.out]; rw [show k = n by omega])
        go_wp2_with fail
        go_ret
        exact ⟨by rw [HE.out]; rfl, HW.out.2.trans (HB.out.mono (by omega))⟩
end Go.Proofs.Ytalfldflnacpeaa
