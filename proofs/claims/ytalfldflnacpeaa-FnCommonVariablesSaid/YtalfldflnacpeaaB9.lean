/- The walk of the private variables, both sides. -/
import Derived.Test.YtalfldflnacpeaaB7
namespace Go.Proofs.Ytalfldflnacpeaa
set_option linter.unusedSimpArgs false
set_option linter.unusedVariables false
open Go.RowKit
/-- the variables below k that are in vs and in no other atom -/
noncomputable def pvTo (nv : Int) (xs : List AtomD) (us : List Int) (vs : List Int) : Nat → List Int
  | 0 => []
  | k + 1 => if occ vs k = true ∧ degF nv xs us k = 1 then pvTo nv xs us vs k ++ [(k : Int)] else pvTo nv xs us vs k
/-- those of a list that are of degree one -/
noncomputable def d1F (nv : Int) (xs : List AtomD) (us : List Int) (L : List Int) : List Int := L.filter fun x => decide (degF nv xs us x = 1)
section
variable {nv : Int} {xs : List AtomD} {us vs L : List Int} {k : Nat}
theorem pvTo_len : (pvTo nv xs us vs k).length ≤ k := by
  induction k with
  | zero => simp [pvTo]
  | succ k ih =>
    simp only [pvTo]
    split
    · rw [List.length_append]; simp; omega
    · omega
theorem pvTo_put (h : occ vs k = true) (h2 : degF nv xs us k = 1) : pvTo nv xs us vs (k + 1) = pvTo nv xs us vs k ++ [(k : Int)] := by simp only [pvTo]; rw [if_pos ⟨h, h2⟩]
theorem pvTo_no (h : occ vs k = false) : pvTo nv xs us vs (k + 1) = pvTo nv xs us vs k := by simp only [pvTo]; rw [if_neg (fun g => by rw [h] at g; cases g.1)]
theorem pvTo_skip (h : ¬ degF nv xs us k = 1) : pvTo nv xs us vs (k + 1) = pvTo nv xs us vs k := by simp only [pvTo]; rw [if_neg (fun g => h g.2)]
theorem d1F_av : d1F nv xs us (avTo vs k) = pvTo nv xs us vs k := by
  induction k with
  | zero => simp [pvTo, avTo, d1F]
  | succ k ih =>
    cases ho : occ vs k with
    | true =>
      rw [avTo_put ho]
      by_cases h : degF nv xs us k = 1
      · rw [pvTo_put ho h, ← ih]; simp [d1F, List.filter_append, h]
      · rw [pvTo_skip h, ← ih]; simp [d1F, List.filter_append, h]
    | false => rw [avTo_keep ho, pvTo_no ho, ih]
theorem pvTo_more {m : Nat} (h : ∀ j, m ≤ j → occ vs j = false) (hk : m ≤ k) : pvTo nv xs us vs k = pvTo nv xs us vs m := by
  induction k with
  | zero => rw [show m = 0 by omega]
  | succ k ih =>
    by_cases e : m = k + 1
    · rw [e]
    · rw [pvTo_no (h k (by omega)), ih (by omega)]
theorem d1F_put (hk : k < L.length) (h : degF nv xs us (ix L k) = 1) : d1F nv xs us (L.take (k + 1)) = d1F nv xs us (L.take k) ++ [ix L k] := by
  unfold d1F
  rw [List.take_succ_eq_append_getElem hk, List.filter_append, ← ix_lt hk]
  simp [h]
theorem d1F_no (hk : k < L.length) (h : ¬ degF nv xs us (ix L k) = 1) : d1F nv xs us (L.take (k + 1)) = d1F nv xs us (L.take k) := by
  unfold d1F
  rw [List.take_succ_eq_append_getElem hk, List.filter_append, ← ix_lt hk]
  simp [h]
theorem d1F_len : (d1F nv xs us (L.take k)).length ≤ k := by
  have := List.length_filter_le (fun x => decide (degF nv xs us x = 1)) (L.take k)
  have h2 := List.length_take_le k L
  unfold d1F; omega
end
/-- what PrivateVariables returns -/
noncomputable def pvF (nv : Int) (xs : List AtomD) (us : List Int) (i : Int) : List Int :=
  if qOK nv xs us = true ∧ (0 ≤ i ∧ i ≤ (xs.length : Int) - 1) then pvTo nv xs us (ax xs i.toNat).vs nv.toNat else []
theorem pvF_no {nv : Int} {xs : List AtomD} {us : List Int} {i : Int} (h : qOK nv xs us = false) : pvF nv xs us i = [] := by simp [pvF, h]
theorem pvF_out {nv : Int} {xs : List AtomD} {us : List Int} {i : Int} (h : ¬ (0 ≤ i ∧ i ≤ (xs.length : Int) - 1)) : pvF nv xs us i = [] := by
  unfold pvF; rw [if_neg (fun g => h g.2)]
theorem pvF_yes {m p : Nat} {xs : List AtomD} {us : List Int} (h : qOK (m : Int) xs us = true) (hp : p < xs.length) : pvF m xs us p = pvTo m xs us (ax xs p).vs m := by
  unfold pvF; rw [if_pos ⟨h, by omega, by omega⟩]; rfl
theorem pvF_five {m p : Nat} {xs : List AtomD} {us : List Int} (h : qOK (m : Int) xs us = true) (hp : p < xs.length) : pvF m xs us p = d1F m xs us (avTo (ax xs p).vs 5) := by
  have h5 := (qOK_out h).1.1
  rw [pvF_yes h hp, d1F_av, pvTo_more (k := 5) (m := m) (fun j hj => ?_) (by omega)]
  refine occ_none (fun i hi e => ?_)
  have := ((qOK_out h).2.2.1 p hp).2.2 i hi
  omega
theorem pvF_len (nv : Int) (xs : List AtomD) (us : List Int) (i : Int) : (pvF nv xs us i).length ≤ 5 := by
  unfold pvF
  split
  · next h =>
    have h1 := (qOK_out h.1).1.1
    have h2 := pvTo_len (nv := nv) (xs := xs) (us := us) (vs := (ax xs i.toNat).vs) (k := nv.toNat)
    omega
  · simp
set_option maxHeartbeats 6400000 in
theorem implPriv {fz : Bool} {lo hi : Nat} (nv : Int) (a : Option Addr) (n c : Nat) (xs : List AtomD) (ua : Option Addr) (un uc : Nat) (us : List Int) (i : Int) (w : World) (hI : QueryA fz lo hi w nv a n c xs ua un uc us) (hh : hi ≤ w.heap.size) :
    Calls Try.prog 20 #[queryV nv a n c ua un uc, .int .i64 i] w (GivesOwn w (pvF nv xs us i)) := by
  have hlx := hI.2.1.len
  have hsx := hI.2.1.small
  have HI := hid hI; clear hI
  obtain ⟨q, hq⟩ : ∃ q, qOK nv xs us = q := ⟨_, rfl⟩
  have HQ := hid hq; clear hq
  cases q with
  | false =>
    have HF := hid (pvF_no (i := i) HQ.out)
    clear hlx
    go_enter Try.func20, Try.ntmps20
    go_wp2_with fail
    refine (implValidQ nv a n c xs ua un uc us _ (beQuery (B := w.heap.size) HI.out (by repeat (first | with_reducible assumption | with_reducible exact Below.refl _ _ | with_reducible refine below_drewN ?_ _ | with_reducible refine Below.al ?_ (by first | with_reducible exact Nat.le_refl _ | omega | (simp; done) | (simp; omega) | exact Nat.le_refl _) _ | with_reducible refine Below.setCell ?_ (by first | with_reducible exact Nat.le_refl _ | omega | (simp; done) | (simp; omega) | exact Nat.le_refl _) _ | assumption | exact Below.refl _ _ | refine below_drewN ?_ _ | refine Below.al ?_ (by first | with_reducible exact Nat.le_refl _ | omega | (simp; done) | (simp; omega) | exact Nat.le_refl _) _ | refine Below.setCell ?_ (by first | with_reducible exact Nat.le_refl _ | omega | (simp; done) | (simp; omega) | exact Nat.le_refl _) _)) hh) (by first | with_reducible exact Nat.le_refl _ | omega | (simp; done) | (simp; omega) | exact Nat.le_refl _)).mono ?_
    rintro e w1 ⟨rfl, hb1⟩
    rw [HQ.out]
    have HB := hid (Below.trans (b := w.alloc (.cells #[.int .i64 nv, .slice a n c, .slice ua un uc] 27)) (B := w.heap.size) (a := w) (by repeat (first | with_reducible assumption | with_reducible exact Below.refl _ _ | with_reducible refine below_drewN ?_ _ | with_reducible refine Below.al ?_ (by first | with_reducible exact Nat.le_refl _ | omega | (simp; done) | (simp; omega) | exact Nat.le_refl _) _ | with_reducible refine Below.setCell ?_ (by first | with_reducible exact Nat.le_refl _ | omega | (simp; done) | (simp; omega) | exact Nat.le_refl _) _ | assumption | exact Below.refl _ _ | refine below_drewN ?_ _ | refine Below.al ?_ (by first | with_reducible exact Nat.le_refl _ | omega | (simp; done) | (simp; omega) | exact Nat.le_refl _) _ | refine Below.setCell ?_ (by first | with_reducible exact Nat.le_refl _ | omega | (simp; done) | (simp; omega) | exact Nat.le_refl _) _)) (hb1.mono (by first | with_reducible exact Nat.le_refl _ | omega | (simp; done) | (simp; omega) | exact Nat.le_refl _))); clear hb1
    go_wp2_with fail
    go_ret
    rw [HF.out]
    exact ⟨_, _, _, rfl, own_nil _ _, HB.out⟩
  | true =>
    have hn := (qOK_out HQ.out).1
    have hn4 : n ≤ 4 := by have := hn.2; omega
    have hn1 : 1 ≤ n := by have := hn.2; omega
    have h1 := hn.1
    obtain ⟨m, rfl⟩ := Int.eq_ofNat_of_zero_le (show 0 ≤ nv by omega)
    have hm5 : m ≤ 5 := by omega
    have HL := hid hlx
    clear hn hlx h1
    by_cases hin : 0 ≤ i ∧ i ≤ (n : Int) - 1
    · obtain ⟨p, rfl⟩ := Int.eq_ofNat_of_zero_le hin.1
      have hpn : p < n := by omega
      have hd : decide ((0 : Int) ≤ p ∧ (p : Int) ≤ (n : Int) - 1) = true := by simpa using hin
      have HF := hid (pvF_five HQ.out (show p < xs.length by rw [HL.out]; exact hpn))
      have HIN := hid hin; clear hin
      go_enter Try.func20, Try.ntmps20
      go_wp2_with fail
      refine (implValidQ m a n c xs ua un uc us _ (beQuery (B := w.heap.size) HI.out (by repeat (first | with_reducible assumption | with_reducible exact Below.refl _ _ | with_reducible refine below_drewN ?_ _ | with_reducible refine Below.al ?_ (by first | with_reducible exact Nat.le_refl _ | omega | (simp; done) | (simp; omega) | exact Nat.le_refl _) _ | with_reducible refine Below.setCell ?_ (by first | with_reducible exact Nat.le_refl _ | omega | (simp; done) | (simp; omega) | exact Nat.le_refl _) _ | assumption | exact Below.refl _ _ | refine below_drewN ?_ _ | refine Below.al ?_ (by first | with_reducible exact Nat.le_refl _ | omega | (simp; done) | (simp; omega) | exact Nat.le_refl _) _ | refine Below.setCell ?_ (by first | with_reducible exact Nat.le_refl _ | omega | (simp; done) | (simp; omega) | exact Nat.le_refl _) _)) hh) (by first | with_reducible exact Nat.le_refl _ | omega | (simp; done) | (simp; omega) | exact Nat.le_refl _)).mono ?_
      rintro e w1 ⟨rfl, hb1⟩
      rw [HQ.out]
      have c0 : w1.cell? ⟨w.heap.size, 0, none⟩ = some (.int .i64 m) := (by rw [(bcell hb1).1 _ _ (by first | omega | (simp; done) | (simp; omega))]; first | with_reducible assumption | (go_simp; done) | assumption | (simp [World.cell?]; done))
      have c1 : w1.cell? ⟨w.heap.size, 1, none⟩ = some (.slice a n c) := (by rw [(bcell hb1).1 _ _ (by first | omega | (simp; done) | (simp; omega))]; first | with_reducible assumption | (go_simp; done) | assumption | (simp [World.cell?]; done))
      have c2 : w1.cell? ⟨w.heap.size, 2, none⟩ = some (.slice ua un uc) := (by rw [(bcell hb1).1 _ _ (by first | omega | (simp; done) | (simp; omega))]; first | with_reducible assumption | (go_simp; done) | assumption | (simp [World.cell?]; done))
      have HB := hid (Below.trans (b := w.alloc (.cells #[.int .i64 m, .slice a n c, .slice ua un uc] 27)) (B := w.heap.size) (a := w) (by repeat (first | with_reducible assumption | with_reducible exact Below.refl _ _ | with_reducible refine below_drewN ?_ _ | with_reducible refine Below.al ?_ (by first | with_reducible exact Nat.le_refl _ | omega | (simp; done) | (simp; omega) | exact Nat.le_refl _) _ | with_reducible refine Below.setCell ?_ (by first | with_reducible exact Nat.le_refl _ | omega | (simp; done) | (simp; omega) | exact Nat.le_refl _) _ | assumption | exact Below.refl _ _ | refine below_drewN ?_ _ | refine Below.al ?_ (by first | with_reducible exact Nat.le_refl _ | omega | (simp; done) | (simp; omega) | exact Nat.le_refl _) _ | refine Below.setCell ?_ (by first | with_reducible exact Nat.le_refl _ | omega | (simp; done) | (simp; omega) | exact Nat.le_refl _) _)) (hb1.mono (by first | with_reducible exact Nat.le_refl _ | omega | (simp; done) | (simp; omega) | exact Nat.le_refl _))); clear hb1
      go_wp2_with fail
      refine (implWithin (p : Int) 0 ((n : Int) - 1) _).mono ?_
      rintro e w2 ⟨rfl, m2, hw2⟩
      rw [hd]
      replace c0 : w2.cell? ⟨w.heap.size, 0, none⟩ = some (.int .i64 m) := by rw [hw2]; exact c0
      replace c1 : w2.cell? ⟨w.heap.size, 1, none⟩ = some (.slice a n c) := by rw [hw2]; exact c1
      replace c2 : w2.cell? ⟨w.heap.size, 2, none⟩ = some (.slice ua un uc) := by rw [hw2]; exact c2
      have hz2 : w.heap.size < w2.heap.size := World.block_lt_of_cell? _ _ c0
      have hb2 : Below w.heap.size w w2 := by rw [hw2]; exact below_drewN HB.out _
      have hAr := beAtoms HI.out.2.1 hb2 hh
      have HB2 := hid hb2; clear hb2 HB hw2
      obtain ⟨b, off, rfl⟩ := atomsSome hAr (by omega)
      obtain ⟨_, _, _, ra, rn, rc, d0, d1, hr, _⟩ := atomsAt hAr hpn
      have HR := hid hr; clear hAr hr
      obtain ⟨nm, hnm⟩ : ∃ nm, nm = (ax xs p).nm := ⟨_, rfl⟩
      rw [← hnm] at d0
      clear hnm
      obtain ⟨vs, hvs⟩ : ∃ vs, (ax xs p).vs = vs := ⟨_, rfl⟩
      have HR2 : Hid (IntsA fz lo hi w2 ra rn rc vs) := hid (by rw [← hvs]; exact HR.out)
      have HF2 : Hid (pvF m xs us p = d1F m xs us (avTo vs 5)) := hid (by rw [← hvs]; exact HF.out)
      clear hvs HR HF
      obtain ⟨L, hLe⟩ : ∃ L, avTo vs 5 = L := ⟨_, rfl⟩
      have HL5 : Hid (L.length ≤ 5) := hid (by rw [← hLe]; exact avTo_len vs 5)
      have HF3 : Hid (pvF m xs us p = d1F m xs us L) := hid (by rw [← hLe]; exact HF2.out)
      have HLE := hid hLe; clear hLe HF2
      go_wp2_with fail
      refine (implAtomVars nm ra rn rc vs _ HR2.out (by omega)).mono ?_
      rintro e w3 ⟨la, ln, lc, rfl, hL, hb3⟩
      rw [HLE.out] at hL
      have hll := hL.len
      have hl5 : ln ≤ 5 := by have := HL5.out; omega
      have hz3 := hb3.size
      have HLI := hid hL.ints
      have HLL := hid hll
      replace c0 : w3.cell? ⟨w.heap.size, 0, none⟩ = some (.int .i64 m) := by rw [(bcell hb3).1 _ _ hz2]; exact c0
      replace c1 : w3.cell? ⟨w.heap.size, 1, none⟩ = some (.slice (some ⟨b, off, none⟩) n c) := by rw [(bcell hb3).1 _ _ hz2]; exact c1
      replace c2 : w3.cell? ⟨w.heap.size, 2, none⟩ = some (.slice ua un uc) := by rw [(bcell hb3).1 _ _ hz2]; exact c2
      have HB3 := hid (HB2.out.trans (hb3.mono (by omega)))
      have hz4 : w.heap.size < w3.heap.size := by omega
      clear hL hb3 hll d0 d1
      go_wp2_with fail
      go_loopw [5, 27] (fun s i wr => ∃ (k : Nat) (ao : Option Addr) (m' co : Nat), i = .int .i64 k ∧ s = .slice ao m' co ∧ k ≤ ln ∧ Own w3.heap.size wr ao m' co (d1F m xs us (L.take k)) ∧ Below w3.heap.size w3 wr) (fun _ i _ => ln - (intOf i).toNat)
      case atStart => exact ⟨0, _, 0, 0, rfl, rfl, by omega, own_nil _ _, Below.refl _ _⟩
      case round =>
        obtain ⟨k, ao, m', co, rfl, rfl, hk, hown, hbel⟩ := hrel
        have hm' : m' ≤ k := by have g1 := hown.len; have g2 := d1F_len (nv := (m : Int)) (xs := xs) (us := us) (L := L) (k := k); omega
        have hzw := hbel.size
        have k0 : wr.cell? ⟨w.heap.size, 0, none⟩ = some (.int .i64 m) := by rw [(bcell hbel).1 _ _ hz4]; exact c0
        have k1 : wr.cell? ⟨w.heap.size, 1, none⟩ = some (.slice (some ⟨b, off, none⟩) n c) := by rw [(bcell hbel).1 _ _ hz4]; exact c1
        have k2 : wr.cell? ⟨w.heap.size, 2, none⟩ = some (.slice ua un uc) := by rw [(bcell hbel).1 _ _ hz4]; exact c2
        have HIr := hid (beQuery HI.out (HB3.out.trans (hbel.mono (show w.heap.size ≤ w3.heap.size by omega))) hh)
        have HLr := hid (beInts HLI.out hbel (Nat.le_refl _))
        have HO := hid hown; clear hown
        have HBL := hid hbel; clear hbel
        by_cases hlt : k < ln
        · obtain ⟨vb, vo, rfl, x0, hx6⟩ := intsAtB HLr.out hlt
          have hkL : k < L.length := by rw [HLL.out]; exact hlt
          obtain ⟨d, hde⟩ : ∃ d, degF m xs us (ix L k) = d := ⟨_, rfl⟩
          have HP := hid (d1F_put (nv := (m : Int)) (xs := xs) (us := us) hkL)
          have HN := hid (d1F_no (nv := (m : Int)) (xs := xs) (us := us) hkL)
          clear hkL
          have HX6 := hid hx6; clear hx6
          generalize hxe : ix L k = x at *
          have HDE := hid hde; clear hde
          by_cases hd1 : d = 1
          · subst hd1
            go_wp2_with fail
            refine (implDeg m (some ⟨b, off, none⟩) n c xs ua un uc us x _ HIr.out (by omega)).mono ?_
            rintro e w4 ⟨rfl, hb4⟩
            rw [HDE.out]
            have hz5 := hb4.size
            have HO4 := hid (HO.out.keep (Keeps.of_below hb4 (Nat.le_refl _)))
            have HB4 := hid (HBL.out.trans (hb4.mono (by omega)))
            clear hb4
            go_wp2_with (at_builtin; refine wpApp rfl (.tmp 35) (.tmp 37) rfl w3.heap.size ao m' co _ rfl (HO4.out.alloc _) _ 1 1 _ rfl (one_ints _ _ _ HX6.out) (by omega) (by simp; omega) ?_)
            intro a1 c1' w5 ho2 hg2
            have hb2 : Below w3.heap.size w3 w5 := ho0' HO4.out HB4.out (by omega) hg2
            have HO2 := hid ho2; clear ho2
            have HB5 := hid hb2; clear hb2 hg2
            go_wp2
            go_roundw
            case rel => exact ⟨k + 1, a1, m' + 1, c1', by go_num, rfl, by omega, by rw [HP.out HDE.out]; exact HO2.out, HB5.out⟩
            case measure => simp [intOf]; omega
          · have hne : ¬ (d : Int) = 1 := by omega
            have hbe : ((d : Int) == 1) = false := by simpa using hne
            go_wp2_with fail
            refine (implDeg m (some ⟨b, off, none⟩) n c xs ua un uc us x _ HIr.out (by omega)).mono ?_
            rintro e w4 ⟨rfl, hb4⟩
            rw [HDE.out]
            have hz5 := hb4.size
            have HO4 := hid (HO.out.keep (Keeps.of_below hb4 (Nat.le_refl _)))
            have HB4 := hid (HBL.out.trans (hb4.mono (by omega)))
            clear hb4
            go_wp2_with fail
            go_roundw
            case rel => exact ⟨k + 1, ao, m', co, by go_num, rfl, by omega, by rw [HN.out (by rw [HDE.out]; exact hd1)]; exact HO4.out, HB4.out⟩
            case measure => simp [intOf]; omega
        · have HT : Hid (L.take k = L) := hid (List.take_of_length_le (by rw [HLL.out]; omega))
          go_wp2_with fail
          go_ret
          have := HO.out
          rw [HT.out] at this
          rw [HF3.out]
          exact ⟨_, _, _, rfl, this.low (by omega), HB3.out.trans (HBL.out.mono (by omega))⟩
    · have hd : decide ((0 : Int) ≤ i ∧ i ≤ (n : Int) - 1) = false := by simpa using hin
      have HF := hid (pvF_out (nv := (m : Int)) (xs := xs) (us := us) (i := i) (by rw [HL.out]; exact hin))
      have HIN := hid hin; clear hin
      go_enter Try.func20, Try.ntmps20
      go_wp2_with fail
      refine (implValidQ m a n c xs ua un uc us _ (beQuery (B := w.heap.size) HI.out (by repeat (first | with_reducible assumption | with_reducible exact Below.refl _ _ | with_reducible refine below_drewN ?_ _ | with_reducible refine Below.al ?_ (by first | with_reducible exact Nat.le_refl _ | omega | (simp; done) | (simp; omega) | exact Nat.le_refl _) _ | with_reducible refine Below.setCell ?_ (by first | with_reducible exact Nat.le_refl _ | omega | (simp; done) | (simp; omega) | exact Nat.le_refl _) _ | assumption | exact Below.refl _ _ | refine below_drewN ?_ _ | refine Below.al ?_ (by first | with_reducible exact Nat.le_refl _ | omega | (simp; done) | (simp; omega) | exact Nat.le_refl _) _ | refine Below.setCell ?_ (by first | with_reducible exact Nat.le_refl _ | omega | (simp; done) | (simp; omega) | exact Nat.le_refl _) _)) hh) (by first | with_reducible exact Nat.le_refl _ | omega | (simp; done) | (simp; omega) | exact Nat.le_refl _)).mono ?_
      rintro e w1 ⟨rfl, hb1⟩
      rw [HQ.out]
      have c1 : w1.cell? ⟨w.heap.size, 1, none⟩ = some (.slice a n c) := (by rw [(bcell hb1).1 _ _ (by first | omega | (simp; done) | (simp; omega))]; first | with_reducible assumption | (go_simp; done) | assumption | (simp [World.cell?]; done))
      have HB := hid (Below.trans (b := w.alloc (.cells #[.int .i64 m, .slice a n c, .slice ua un uc] 27)) (B := w.heap.size) (a := w) (by repeat (first | with_reducible assumption | with_reducible exact Below.refl _ _ | with_reducible refine below_drewN ?_ _ | with_reducible refine Below.al ?_ (by first | with_reducible exact Nat.le_refl _ | omega | (simp; done) | (simp; omega) | exact Nat.le_refl _) _ | with_reducible refine Below.setCell ?_ (by first | with_reducible exact Nat.le_refl _ | omega | (simp; done) | (simp; omega) | exact Nat.le_refl _) _ | assumption | exact Below.refl _ _ | refine below_drewN ?_ _ | refine Below.al ?_ (by first | with_reducible exact Nat.le_refl _ | omega | (simp; done) | (simp; omega) | exact Nat.le_refl _) _ | refine Below.setCell ?_ (by first | with_reducible exact Nat.le_refl _ | omega | (simp; done) | (simp; omega) | exact Nat.le_refl _) _)) (hb1.mono (by first | with_reducible exact Nat.le_refl _ | omega | (simp; done) | (simp; omega) | exact Nat.le_refl _))); clear hb1
      go_wp2_with fail
      refine (implWithin i 0 ((n : Int) - 1) _).mono ?_
      rintro e w2 ⟨rfl, m2, rfl⟩
      rw [hd]
      go_wp2_with fail
      go_ret
      rw [HF.out]
      exact ⟨_, _, _, rfl, own_nil _ _, below_drewN HB.out _⟩
set_option maxRecDepth 100000 in
set_option maxHeartbeats 6400000 in
theorem specPriv {fz : Bool} {lo hi : Nat} (nv : Int) (a : Option Addr) (n c : Nat) (xs : List AtomD) (ua : Option Addr) (un uc : Nat) (us : List Int) (i : Int) (w : World) (hI : QueryA fz lo hi w nv a n c xs ua un uc us) (hh : hi ≤ w.heap.size) :
    Calls Try.prog 22 #[queryV nv a n c ua un uc, .int .i64 i] w (GivesOwn w (pvF nv xs us i)) := by
  have hlx := hI.2.1.len
  have hsx := hI.2.1.small
  obtain ⟨W, hW⟩ : ∃ W, W = (w.alloc (.cells #[.int .i64 nv, .slice a n c, .slice ua un uc] 27)).alloc (.cells #[] 3) := ⟨_, rfl⟩
  have hBW : Below w.heap.size w W := by rw [hW]; exact (by repeat (first | with_reducible assumption | with_reducible exact Below.refl _ _ | with_reducible refine below_drewN ?_ _ | with_reducible refine Below.al ?_ (by first | with_reducible exact Nat.le_refl _ | omega | (simp; done) | (simp; omega) | exact Nat.le_refl _) _ | with_reducible refine Below.setCell ?_ (by first | with_reducible exact Nat.le_refl _ | omega | (simp; done) | (simp; omega) | exact Nat.le_refl _) _ | assumption | exact Below.refl _ _ | refine below_drewN ?_ _ | refine Below.al ?_ (by first | with_reducible exact Nat.le_refl _ | omega | (simp; done) | (simp; omega) | exact Nat.le_refl _) _ | refine Below.setCell ?_ (by first | with_reducible exact Nat.le_refl _ | omega | (simp; done) | (simp; omega) | exact Nat.le_refl _) _))
  have c0 : W.cell? ⟨w.heap.size, 0, none⟩ = some (.int .i64 nv) := by rw [hW]; first | (go_simp; done) | (simp [World.cell?]; done)
  have c1 : W.cell? ⟨w.heap.size, 1, none⟩ = some (.slice a n c) := by rw [hW]; first | (go_simp; done) | (simp [World.cell?]; done)
  have c2 : W.cell? ⟨w.heap.size, 2, none⟩ = some (.slice ua un uc) := by rw [hW]; first | (go_simp; done) | (simp [World.cell?]; done)
  have hz : w.heap.size + 1 ≤ W.heap.size := by rw [hW]; simp
  have ho : Own (w.heap.size + 1) W (some ⟨w.heap.size + 1, 0, none⟩) 0 0 [] := own_empty2 _ _ _ (Nat.le_refl _) (by rw [hW]; exact al1a _ _ _)
  have hIW := beQuery hI hBW hh
  have HW := hid (And.intro hW (And.intro hBW (And.intro hI (And.intro hIW ho)))); clear hW hBW hI ho hIW
  obtain ⟨q, hq⟩ : ∃ q, qOK nv xs us = q := ⟨_, rfl⟩
  have HQ := hid hq; clear hq
  cases q with
  | false =>
    have HF := hid (pvF_no (i := i) HQ.out)
    clear hlx
    by_cases hp : 0 < nv
    · skip
      go_enter Try.func22, Try.ntmps22
      go_upto_region 2 with fail
      rw [← HW.out.1]
      go_wp2_with fail
      go_loopw [5, 6] (fun s i wr => i = .int .i64 0 ∧ s = .slice (some ⟨w.heap.size + 1, 0, none⟩) 0 0 ∧ wr = W) (fun _ i _ => 1 - (intOf i).toNat)
      case atStart => exact ⟨rfl, rfl, rfl⟩
      case round =>
        obtain ⟨rfl, rfl, rfl⟩ := hrel
        go_wp2_with fail
        refine (specValidQ nv a n c xs ua un uc us _ HW.out.2.2.2.1 (by omega)).mono ?_
        rintro e w1 ⟨rfl, hb1⟩
        rw [HQ.out]
        have HB := hid hb1; clear hb1
        go_wp2_with fail
        go_ret
        exact ⟨_, _, _, rfl, by rw [HF.out]; exact (HW.out.2.2.2.2.keep (Keeps.of_below HB.out (Nat.le_refl _))).low (by omega), HW.out.2.1.trans (HB.out.mono (by omega))⟩
    · skip
      go_enter Try.func22, Try.ntmps22
      go_upto_region 2 with fail
      rw [← HW.out.1]
      go_wp2_with fail
      go_loopw [5, 6] (fun s i wr => i = .int .i64 0 ∧ s = .slice (some ⟨w.heap.size + 1, 0, none⟩) 0 0 ∧ wr = W) (fun _ i _ => 1 - (intOf i).toNat)
      case atStart => exact ⟨rfl, rfl, rfl⟩
      case round =>
        obtain ⟨rfl, rfl, rfl⟩ := hrel
        go_wp2_with fail
        go_ret
        exact ⟨_, _, _, rfl, by rw [HF.out]; exact HW.out.2.2.2.2.low (by omega), HW.out.2.1⟩
  | true =>
    have hn := (qOK_out HQ.out).1
    have hn4 : n ≤ 4 := by have := hn.2; omega
    have hn1 : 1 ≤ n := by have := hn.2; omega
    have h1 := hn.1
    obtain ⟨m, rfl⟩ := Int.eq_ofNat_of_zero_le (show 0 ≤ nv by omega)
    have hm5 : m ≤ 5 := by omega
    have hm1 : 1 ≤ m := by omega
    have HL := hid hlx
    clear hn hlx h1
    by_cases hin : 0 ≤ i ∧ i ≤ (n : Int) - 1
    · obtain ⟨p, rfl⟩ := Int.eq_ofNat_of_zero_le hin.1
      have hpn : p < n := by omega
      have hd : decide ((0 : Int) ≤ p ∧ (p : Int) ≤ (n : Int) - 1) = true := by simpa using hin
      have HF := hid (pvF_yes HQ.out (show p < xs.length by rw [HL.out]; exact hpn))
      have HIN := hid hin; clear hin
      obtain ⟨vs, hvs⟩ : ∃ vs, (ax xs p).vs = vs := ⟨_, rfl⟩
      rw [hvs] at HF
      have HVS := hid hvs; clear hvs
      go_enter Try.func22, Try.ntmps22
      go_upto_region 2 with fail
      rw [← HW.out.1]
      go_wp2_with fail
      go_loopw [5, 6] (fun s i wr => ∃ (k : Nat) (ao : Option Addr) (m' co : Nat), i = .int .i64 k ∧ s = .slice ao m' co ∧ k ≤ m ∧ Own (w.heap.size + 1) wr ao m' co (pvTo m xs us vs k) ∧ Below (w.heap.size + 1) W wr) (fun _ i _ => m - (intOf i).toNat)
      case atStart => exact ⟨0, _, 0, 0, rfl, rfl, by omega, HW.out.2.2.2.2, Below.refl _ _⟩
      case round =>
        obtain ⟨k, ao, m', co, rfl, rfl, hk, hown, hbel⟩ := hrel
        have hm' : m' ≤ k := by have g1 := hown.len; have g2 := pvTo_len (nv := (m : Int)) (xs := xs) (us := us) (vs := vs) (k := k); omega
        have hzw := hbel.size
        have hbw : Below w.heap.size w wr := HW.out.2.1.trans (hbel.mono (by omega))
        have k0 : wr.cell? ⟨w.heap.size, 0, none⟩ = some (.int .i64 m) := by rw [hbel.cell (p := ⟨w.heap.size, 0, none⟩) (by simp)]; exact c0
        have k1 : wr.cell? ⟨w.heap.size, 1, none⟩ = some (.slice a n c) := by rw [hbel.cell (p := ⟨w.heap.size, 1, none⟩) (by simp)]; exact c1
        have k2 : wr.cell? ⟨w.heap.size, 2, none⟩ = some (.slice ua un uc) := by rw [hbel.cell (p := ⟨w.heap.size, 2, none⟩) (by simp)]; exact c2
        have HI64 : Hid (I64 (k : Int)) := hid (by unfold I64; omega)
        have HIr := hid (beQuery HW.out.2.2.1 hbw hh)
        have HO := hid hown
        have HB := hid (And.intro hbel hbw)
        clear hown hbel hbw
        by_cases hlt : k < m
        · go_wp2_with fail
          refine (specValidQ m a n c xs ua un uc us _ HIr.out (by omega)).mono ?_
          rintro e w2 ⟨rfl, hb2⟩
          rw [HQ.out]
          have hzb : w.heap.size < wr.heap.size := by omega
          replace k0 : w2.cell? ⟨w.heap.size, 0, none⟩ = some (.int .i64 m) := by rw [(bcell hb2).1 _ _ hzb]; exact k0
          replace k1 : w2.cell? ⟨w.heap.size, 1, none⟩ = some (.slice a n c) := by rw [(bcell hb2).1 _ _ hzb]; exact k1
          replace k2 : w2.cell? ⟨w.heap.size, 2, none⟩ = some (.slice ua un uc) := by rw [(bcell hb2).1 _ _ hzb]; exact k2
          go_wp2_with fail
          refine (specIn (p : Int) 0 ((n : Int) - 1) _).mono ?_
          rintro e w3 ⟨rfl, m3, hw3⟩
          rw [hd]
          replace k0 : w3.cell? ⟨w.heap.size, 0, none⟩ = some (.int .i64 m) := by rw [hw3]; exact k0
          replace k1 : w3.cell? ⟨w.heap.size, 1, none⟩ = some (.slice a n c) := by rw [hw3]; exact k1
          replace k2 : w3.cell? ⟨w.heap.size, 2, none⟩ = some (.slice ua un uc) := by rw [hw3]; exact k2
          have hb3 : Below wr.heap.size wr w3 := by rw [hw3]; exact below_drewN hb2 _
          have hz3 := hb3.size
          have hzc : w.heap.size < w3.heap.size := by omega
          have hhr : hi ≤ w3.heap.size := by omega
          have HQ3 := hid (beQuery HIr.out hb3 (by omega))
          have hAr := HQ3.out.2.1
          obtain ⟨b, off, rfl⟩ := atomsSome hAr (by omega)
          obtain ⟨_, _, _, ra, rn, rc, d0, d1, hr, _⟩ := atomsAt hAr hpn
          rw [HVS.out] at hr
          have HR := hid hr; clear hAr hr
          obtain ⟨nm, hnm⟩ : ∃ nm, nm = (ax xs p).nm := ⟨_, rfl⟩
          rw [← hnm] at d0
          clear hnm
          have HO3 := hid (HO.out.keep (Keeps.of_below hb3 (Nat.le_refl _)))
          have HB3 := hid (HB.out.1.trans (hb3.mono (by omega)))
          clear hb3 hw3 hb2
          obtain ⟨eb, heb⟩ : ∃ eb, occ vs k = eb := ⟨_, rfl⟩
          have HEB := hid heb; clear heb
          cases eb with
          | true =>
            obtain ⟨d, hde⟩ : ∃ d, degF m xs us k = d := ⟨_, rfl⟩
            have HDE := hid hde; clear hde
            go_wp2_with fail
            refine (specHasVar nm ra rn rc vs k _ HR.out hhr).mono ?_
            rintro e w4 ⟨rfl, hb4⟩
            rw [HEB.out]
            have hz4 := hb4.size
            replace k0 : w4.cell? ⟨w.heap.size, 0, none⟩ = some (.int .i64 m) := by rw [(bcell hb4).1 _ _ hzc]; exact k0
            replace k1 : w4.cell? ⟨w.heap.size, 1, none⟩ = some (.slice (some ⟨b, off, none⟩) n c) := by rw [(bcell hb4).1 _ _ hzc]; exact k1
            replace k2 : w4.cell? ⟨w.heap.size, 2, none⟩ = some (.slice ua un uc) := by rw [(bcell hb4).1 _ _ hzc]; exact k2
            have HQ4 := hid (beQuery HQ3.out hb4 hhr)
            have HO4 := hid (HO3.out.keep (Keeps.of_below hb4 (Nat.le_refl _)))
            have HB4 := hid (HB3.out.trans (hb4.mono (by omega)))
            clear hb4
            by_cases hd1 : d = 1
            · subst hd1
              go_wp2_with fail
              refine (specDeg m (some ⟨b, off, none⟩) n c xs ua un uc us k _ HQ4.out (by omega)).mono ?_
              rintro e w5 ⟨rfl, hb5⟩
              rw [HDE.out]
              have hz5 := hb5.size
              have HO5 := hid (HO4.out.keep (Keeps.of_below hb5 (Nat.le_refl _)))
              have HB5 := hid (HB4.out.trans (hb5.mono (by omega)))
              clear hb5
              go_wp2_with (at_builtin; refine wpApp rfl (.tmp 39) (.tmp 41) rfl (w.heap.size + 1) ao m' co _ rfl (HO5.out.alloc _) _ 1 1 _ rfl (one_ints _ _ _ HI64.out) (by omega) (by simp; omega) ?_)
              intro a1 c1' w6 ho2 hg2
              have hb2 : Below (w.heap.size + 1) W w6 := ho0' HO5.out HB5.out (by omega) hg2
              have HO2 := hid ho2; clear ho2
              have HB6 := hid hb2; clear hb2 hg2
              go_wp2
              go_roundw
              case rel => exact ⟨k + 1, a1, m' + 1, c1', by go_num, rfl, by omega, by rw [pvTo_put HEB.out HDE.out]; exact HO2.out, HB6.out⟩
              case measure => simp [intOf]; omega
            · have hne : ¬ (d : Int) = 1 := by omega
              have hbe : ((d : Int) == 1) = false := by simpa using hne
              go_wp2_with fail
              refine (specDeg m (some ⟨b, off, none⟩) n c xs ua un uc us k _ HQ4.out (by omega)).mono ?_
              rintro e w5 ⟨rfl, hb5⟩
              rw [HDE.out]
              have hz5 := hb5.size
              have HO5 := hid (HO4.out.keep (Keeps.of_below hb5 (Nat.le_refl _)))
              have HB5 := hid (HB4.out.trans (hb5.mono (by omega)))
              clear hb5
              go_wp2_with fail
              go_roundw
              case rel => exact ⟨k + 1, ao, m', co, by go_num, rfl, by omega, by rw [pvTo_skip (by rw [HDE.out]; exact hd1)]; exact HO5.out, HB5.out⟩
              case measure => simp [intOf]; omega
          | false =>
            go_wp2_with fail
            refine (specHasVar nm ra rn rc vs k _ HR.out hhr).mono ?_
            rintro e w4 ⟨rfl, hb4⟩
            rw [HEB.out]
            have hz4 := hb4.size
            have HO4 := hid (HO3.out.keep (Keeps.of_below hb4 (Nat.le_refl _)))
            have HB4 := hid (HB3.out.trans (hb4.mono (by omega)))
            clear hb4
            go_wp2_with fail
            go_roundw
            case rel => exact ⟨k + 1, ao, m', co, by go_num, rfl, by omega, by rw [pvTo_no HEB.out]; exact HO4.out, HB4.out⟩
            case measure => simp [intOf]; omega
        · go_wp2_with fail
          go_ret
          obtain rfl : k = m := by omega
          rw [HF.out]
          exact ⟨_, _, _, rfl, HO.out.low (by omega), HB.out.2⟩
    · have hd : decide ((0 : Int) ≤ i ∧ i ≤ (n : Int) - 1) = false := by simpa using hin
      have HF := hid (pvF_out (nv := (m : Int)) (xs := xs) (us := us) (i := i) (by rw [HL.out]; exact hin))
      have HIN := hid hin; clear hin
      have hzb : w.heap.size < W.heap.size := by omega
      go_enter Try.func22, Try.ntmps22
      go_upto_region 2 with fail
      rw [← HW.out.1]
      go_wp2_with fail
      go_loopw [5, 6] (fun s i wr => i = .int .i64 0 ∧ s = .slice (some ⟨w.heap.size + 1, 0, none⟩) 0 0 ∧ wr = W) (fun _ i _ => 1 - (intOf i).toNat)
      case atStart => exact ⟨rfl, rfl, rfl⟩
      case round =>
        obtain ⟨rfl, rfl, rfl⟩ := hrel
        go_wp2_with fail
        refine (specValidQ m a n c xs ua un uc us _ HW.out.2.2.2.1 (by omega)).mono ?_
        rintro e w1 ⟨rfl, hb1⟩
        rw [HQ.out]
        have k1 : w1.cell? ⟨w.heap.size, 1, none⟩ = some (.slice a n c) := by rw [(bcell hb1).1 _ _ hzb]; exact c1
        have HB := hid hb1; clear hb1
        go_wp2_with fail
        refine (specIn i 0 ((n : Int) - 1) _).mono ?_
        rintro e w2 ⟨rfl, m2, rfl⟩
        rw [hd]
        go_wp2_with fail
        go_ret
        exact ⟨_, _, _, rfl, by rw [HF.out]; exact (((HW.out.2.2.2.2.keep (Keeps.of_below HB.out (Nat.le_refl _))).drewN _).low (by omega)), below_drewN (HW.out.2.1.trans (HB.out.mono (by omega))) _⟩
end Go.Proofs.Ytalfldflnacpeaa
