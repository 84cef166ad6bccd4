/- Walks: the columns of an atom in an order. -/
import Derived.Test.YtalfldflnacpeaaA2
namespace Go.Proofs.Ytalfldflnacpeaa
set_option linter.unusedSimpArgs false
set_option linter.unusedVariables false
open Go.RowKit
theorem findF_bd (xs : List Int) (v : Int) : -1 ≤ findF xs v ∧ findF xs v < xs.length ∨ findF xs v = -1 := by
  unfold findF; split
  · left; omega
  · right; rfl
/-- the columns of the first k variables of an order, each once -/
noncomputable def colTo (vars os : List Int) : Nat → List Int
  | 0 => []
  | k + 1 => if 0 ≤ findF vars (ix os k) ∧ ¬ 0 ≤ findF (colTo vars os k) (findF vars (ix os k)) then colTo vars os k ++ [findF vars (ix os k)] else colTo vars os k
theorem colTo_len (vars os : List Int) (k : Nat) : (colTo vars os k).length ≤ k := by
  induction k with
  | zero => simp [colTo]
  | succ k ih =>
    simp only [colTo]; split
    · simp; omega
    · omega
theorem colTo_put {vars os : List Int} {k : Nat} {q : Int} (hq : findF vars (ix os k) = q) (h1 : 0 ≤ q) (h2 : ¬ 0 ≤ findF (colTo vars os k) q) : colTo vars os (k + 1) = colTo vars os k ++ [q] := by
  simp only [colTo]; rw [hq, if_pos ⟨h1, h2⟩]
theorem colTo_keep {vars os : List Int} {k : Nat} {q : Int} (hq : findF vars (ix os k) = q) (h : ¬ (0 ≤ q ∧ ¬ 0 ≤ findF (colTo vars os k) q)) : colTo vars os (k + 1) = colTo vars os k := by
  simp only [colTo]; rw [hq, if_neg h]
/-- what ColumnsForOrder returns -/
noncomputable def colF (xs os : List Int) : List Int := colTo (avTo xs 5) os os.length
theorem colF_len (xs os : List Int) : (colF xs os).length ≤ os.length := colTo_len _ _ _
theorem intsAt' {fz : Bool} {lo hi : Nat} {w : World} {a : Option Addr} {n c : Nat} {xs : List Int} (h : IntsA fz lo hi w a n c xs) {i : Nat} (hi' : i < n) :
    ∃ b off, a = some ⟨b, off, none⟩ ∧ w.cell? ⟨b, off + i, none⟩ = some (.int .i64 (ix xs i)) ∧ I64 (ix xs i) := by
  obtain ⟨b, off, rfl, _, _, hc, _⟩ := h.open (by omega)
  exact ⟨b, off, rfl, hc i hi', h.at hi'⟩
set_option maxHeartbeats 1600000 in
theorem implCols {fz fz' : Bool} {lo hi lo' hi' : Nat} (s : ByteArray) (a : Option Addr) (n c : Nat) (xs : List Int) (oa : Option Addr) (on oc : Nat) (os : List Int) (w : World) (hI : IntsA fz lo hi w a n c xs) (hh : hi ≤ w.heap.size) (hJ : IntsA fz' lo' hi' w oa on oc os) (hh' : hi' ≤ w.heap.size) (hn : os.length ≤ 1048576) :
    Calls Try.prog 11 #[atomV s a n c, .slice oa on oc] w (GivesOwn w (colF xs os)) := by
  have hl := hJ.len
  have hs := hJ.small
  have hon : on ≤ 1048576 := by omega
  have HL := hid hl; clear hl hn
  have HJ := hid hJ; clear hJ
  go_enter Try.func11, Try.ntmps11
  go_wp2_with fail
  refine (implAtomVars s a n c xs _ (beInts (B := w.heap.size) hI (by repeat (first | with_reducible assumption | with_reducible exact Below.refl _ _ | with_reducible refine below_drewN ?_ _ | with_reducible refine Below.al ?_ (by first | with_reducible exact Nat.le_refl _ | omega | (simp; done) | (simp; omega) | exact Nat.le_refl _) _ | with_reducible refine Below.setCell ?_ (by first | with_reducible exact Nat.le_refl _ | omega | (simp; done) | (simp; omega) | exact Nat.le_refl _) _ | assumption | exact Below.refl _ _ | refine below_drewN ?_ _ | refine Below.al ?_ (by first | with_reducible exact Nat.le_refl _ | omega | (simp; done) | (simp; omega) | exact Nat.le_refl _) _ | refine Below.setCell ?_ (by first | with_reducible exact Nat.le_refl _ | omega | (simp; done) | (simp; omega) | exact Nat.le_refl _) _)) hh) (by first | with_reducible exact Nat.le_refl _ | omega | (simp; done) | (simp; omega) | exact Nat.le_refl _)).mono ?_
  rintro e w1 ⟨va, vn, vc, rfl, hov, hb1⟩
  have hb2 : Below w.heap.size w w1 := Below.trans (by repeat (first | with_reducible assumption | with_reducible exact Below.refl _ _ | with_reducible refine below_drewN ?_ _ | with_reducible refine Below.al ?_ (by first | with_reducible exact Nat.le_refl _ | omega | (simp; done) | (simp; omega) | exact Nat.le_refl _) _ | with_reducible refine Below.setCell ?_ (by first | with_reducible exact Nat.le_refl _ | omega | (simp; done) | (simp; omega) | exact Nat.le_refl _) _ | assumption | exact Below.refl _ _ | refine below_drewN ?_ _ | refine Below.al ?_ (by first | with_reducible exact Nat.le_refl _ | omega | (simp; done) | (simp; omega) | exact Nat.le_refl _) _ | refine Below.setCell ?_ (by first | with_reducible exact Nat.le_refl _ | omega | (simp; done) | (simp; omega) | exact Nat.le_refl _) _)) (hb1.mono (by first | with_reducible exact Nat.le_refl _ | omega | (simp; done) | (simp; omega) | exact Nat.le_refl _))
  have hz1 := hb2.size
  have HV : Hid (IntsA true 0 w1.heap.size w1 va vn vc (avTo xs 5)) := hid (wdInts hov.ints (Nat.zero_le _))
  have HB := hid hb2; clear hb1 hb2 hov hI
  have HW : Hid (w1 = w1 ∧ Below w1.heap.size w1 w1 ∧ Own w1.heap.size w1 none 0 0 []) := hid ⟨rfl, Below.refl _ _, own_nil _ _⟩
  go_wp2_with fail
  go_loopw [6, 14] (fun v i wr => ∃ (k : Nat) (ao : Option Addr) (m co : Nat), i = .int .i64 k ∧ v = .slice ao m co ∧ k ≤ on ∧ Own w1.heap.size wr ao m co (colTo (avTo xs 5) os k) ∧ Below w1.heap.size w1 wr) (fun _ i _ => on - (intOf i).toNat)
  case atStart => exact ⟨0, _, 0, 0, rfl, rfl, by omega, HW.out.2.2, Below.refl _ _⟩
  case round =>
    obtain ⟨k, ao, m, co, rfl, rfl, hk, hown, hbel⟩ := hrel
    have hm : m ≤ k := by have g1 := hown.len; have g2 := colTo_len (avTo xs 5) os k; omega
    have hk2 : k ≤ 1048576 := by omega
    have hzw : w1.heap.size ≤ wr.heap.size := by have := hbel.size; omega
    have hb1r : Below w1.heap.size w1 wr := HW.out.2.1.trans hbel
    have HVr := hid (beInts HV.out hb1r (Nat.le_refl _))
    have HJr := hid (beInts (beInts HJ.out HB.out hh') hb1r (by omega))
    have HOI := hid hown.ints
    have HO := hid hown
    have HB2 := hid (And.intro hbel (HB.out.trans (hb1r.mono (by omega))))
    clear hown hbel hb1r
    by_cases hlt : k < on
    · obtain ⟨b, off, rfl, d1, _⟩ := intsAt' HJr.out hlt
      obtain ⟨q, hq⟩ : ∃ q, findF (avTo xs 5) (ix os k) = q := ⟨_, rfl⟩
      have hqb : q < 5 ∧ -1 ≤ q := by
        have g1 := findF_bd (avTo xs 5) (ix os k)
        have g2 := avTo_len xs 5
        rw [hq] at g1; omega
      have HP := hid (fun (h1 : 0 ≤ q) (h2 : findF (colTo (avTo xs 5) os k) q < 0) => colTo_put (k := k) hq h1 (by omega))
      have HKP := hid (fun (h : q < 0 ∨ 0 ≤ findF (colTo (avTo xs 5) os k) q) => colTo_keep (k := k) hq (by omega))
      have HC := hid (fun w' (h : IntsA true 0 w1.heap.size w' va vn vc (avTo xs 5)) => by have := implIndexOf va vn vc (avTo xs 5) (ix os k) w' h; rwa [hq] at this)
      generalize hx : ix os k = x at *
      clear hq
      have HXX := hid hx; clear hx
      by_cases h0 : 0 ≤ q
      · obtain ⟨f, hf⟩ : ∃ f, findF (colTo (avTo xs 5) os k) q = f := ⟨_, rfl⟩
        have hi64 : I64 q := by unfold I64; omega
        have HQ := hid (And.intro hf hi64); clear hi64
        by_cases h2 : 0 ≤ f
        · have hdf : Hid (decide (0 ≤ f) = true) := hid (by simpa using h2)
          have HK := hid (HKP.out (.inr (by rw [hf]; exact h2)))
          clear hf
          go_wp2_with fail
          refine (HC.out _ HVr.out).mono ?_
          rintro e w3 ⟨rfl, m3, rfl⟩
          go_wp2_with fail
          refine (implHasInt ao m co _ q _ (HOI.out.drewN _)).mono ?_
          rintro e w4 ⟨rfl, m4, rfl⟩
          rw [HQ.out.1, hdf.out]
          go_wp2_with fail
          go_roundw
          case rel => exact ⟨k + 1, ao, m, co, by go_num, rfl, by omega, by rw [HK.out]; exact HO.out.keep (by repeat (first | assumption | exact Keeps.refl _ _ _ | exact HB.out.1 | refine Keeps.dr ?_ _ | refine Keeps.sc ?_ (by first | omega | (simp; done) | (simp; omega)) _ | refine Keeps.al ?_ (by first | with_reducible exact Nat.le_refl _ | omega | (simp; done) | (simp; omega) | exact Nat.le_refl _) _)), Below.trans HB2.out.1 (Below.mono (B' := w1.heap.size) (B := wr.heap.size) (by repeat (first | with_reducible assumption | with_reducible exact Below.refl _ _ | with_reducible refine below_drewN ?_ _ | with_reducible refine Below.al ?_ (by first | with_reducible exact Nat.le_refl _ | omega | (simp; done) | (simp; omega) | exact Nat.le_refl _) _ | with_reducible refine Below.setCell ?_ (by first | with_reducible exact Nat.le_refl _ | omega | (simp; done) | (simp; omega) | exact Nat.le_refl _) _ | assumption | exact Below.refl _ _ | refine below_drewN ?_ _ | refine Below.al ?_ (by first | with_reducible exact Nat.le_refl _ | omega | (simp; done) | (simp; omega) | exact Nat.le_refl _) _ | refine Below.setCell ?_ (by first | with_reducible exact Nat.le_refl _ | omega | (simp; done) | (simp; omega) | exact Nat.le_refl _) _)) (by omega))⟩
          case measure => simp [intOf]; omega
        · have hdf : Hid (decide (0 ≤ f) = false) := hid (by simpa using h2)
          have h1 : Hid (findF (colTo (avTo xs 5) os k) q < 0) := hid (by rw [hf]; omega)
          clear hf
          go_wp2_with fail
          refine (HC.out _ HVr.out).mono ?_
          rintro e w3 ⟨rfl, m3, rfl⟩
          go_wp2_with fail
          refine (implHasInt ao m co _ q _ (HOI.out.drewN _)).mono ?_
          rintro e w4 ⟨rfl, m4, rfl⟩
          rw [HQ.out.1, hdf.out]
          go_wp2_with (at_builtin; refine wpApp rfl (.tmp 29) (.tmp 31) rfl w1.heap.size ao m co _ rfl ((HO.out.keep (Keeps.of_below (B := wr.heap.size) (by repeat (first | with_reducible assumption | with_reducible exact Below.refl _ _ | with_reducible refine below_drewN ?_ _ | with_reducible refine Below.al ?_ (by first | with_reducible exact Nat.le_refl _ | omega | (simp; done) | (simp; omega) | exact Nat.le_refl _) _ | with_reducible refine Below.setCell ?_ (by first | with_reducible exact Nat.le_refl _ | omega | (simp; done) | (simp; omega) | exact Nat.le_refl _) _ | assumption | exact Below.refl _ _ | refine below_drewN ?_ _ | refine Below.al ?_ (by first | with_reducible exact Nat.le_refl _ | omega | (simp; done) | (simp; omega) | exact Nat.le_refl _) _ | refine Below.setCell ?_ (by first | with_reducible exact Nat.le_refl _ | omega | (simp; done) | (simp; omega) | exact Nat.le_refl _) _)) (Nat.le_refl _))).alloc _) _ 1 1 _ rfl (one_ints _ _ _ HQ.out.2) (by omega) (by simp; omega) ?_)
          intro a1 c1' w5 ho2 hg2
          have hb2 : Below w1.heap.size w1 w5 := Below.grown (Below.al (Below.trans HB2.out.1 (Below.mono (B' := w1.heap.size) (B := wr.heap.size) (by repeat (first | with_reducible assumption | with_reducible exact Below.refl _ _ | with_reducible refine below_drewN ?_ _ | with_reducible refine Below.al ?_ (by first | with_reducible exact Nat.le_refl _ | omega | (simp; done) | (simp; omega) | exact Nat.le_refl _) _ | with_reducible refine Below.setCell ?_ (by first | with_reducible exact Nat.le_refl _ | omega | (simp; done) | (simp; omega) | exact Nat.le_refl _) _ | assumption | exact Below.refl _ _ | refine below_drewN ?_ _ | refine Below.al ?_ (by first | with_reducible exact Nat.le_refl _ | omega | (simp; done) | (simp; omega) | exact Nat.le_refl _) _ | refine Below.setCell ?_ (by first | with_reducible exact Nat.le_refl _ | omega | (simp; done) | (simp; omega) | exact Nat.le_refl _) _)) (by omega))) (by first | omega | (simp; omega)) _) hg2 (by simp; omega) (fun j hj => by have := HO.out.1.lt j hj; omega)
          have HO2 := hid ho2; clear ho2
          have HB3 := hid hb2; clear hb2 hg2
          go_wp2
          go_roundw
          case rel => exact ⟨k + 1, a1, m + 1, c1', by go_num, rfl, by omega, by rw [HP.out h0 h1.out]; exact HO2.out, HB3.out⟩
          case measure => simp [intOf]; omega
      · have HK := hid (HKP.out (.inl (by omega)))
        go_wp2_with fail
        refine (HC.out _ HVr.out).mono ?_
        rintro e w3 ⟨rfl, m3, rfl⟩
        go_wp2_with fail
        go_roundw
        case rel => exact ⟨k + 1, ao, m, co, by go_num, rfl, by omega, by rw [HK.out]; exact HO.out.keep (by repeat (first | assumption | exact Keeps.refl _ _ _ | exact HB.out.1 | refine Keeps.dr ?_ _ | refine Keeps.sc ?_ (by first | omega | (simp; done) | (simp; omega)) _ | refine Keeps.al ?_ (by first | with_reducible exact Nat.le_refl _ | omega | (simp; done) | (simp; omega) | exact Nat.le_refl _) _)), Below.trans HB2.out.1 (Below.mono (B' := w1.heap.size) (B := wr.heap.size) (by repeat (first | with_reducible assumption | with_reducible exact Below.refl _ _ | with_reducible refine below_drewN ?_ _ | with_reducible refine Below.al ?_ (by first | with_reducible exact Nat.le_refl _ | omega | (simp; done) | (simp; omega) | exact Nat.le_refl _) _ | with_reducible refine Below.setCell ?_ (by first | with_reducible exact Nat.le_refl _ | omega | (simp; done) | (simp; omega) | exact Nat.le_refl _) _ | assumption | exact Below.refl _ _ | refine below_drewN ?_ _ | refine Below.al ?_ (by first | with_reducible exact Nat.le_refl _ | omega | (simp; done) | (simp; omega) | exact Nat.le_refl _) _ | refine Below.setCell ?_ (by first | with_reducible exact Nat.le_refl _ | omega | (simp; done) | (simp; omega) | exact Nat.le_refl _) _)) (by omega))⟩
        case measure => simp [intOf]; omega
    · go_wp2_with fail
      go_ret
      obtain rfl : k = on := by omega
      exact ⟨_, _, _, rfl, by unfold colF; rw [HL.out]; exact HO.out.low (by omega), HB2.out.2⟩
set_option maxHeartbeats 1600000 in
theorem specCols {fz fz' : Bool} {lo hi lo' hi' : Nat} (s : ByteArray) (a : Option Addr) (n c : Nat) (xs : List Int) (oa : Option Addr) (on oc : Nat) (os : List Int) (w : World) (hI : IntsA fz lo hi w a n c xs) (hh : hi ≤ w.heap.size) (hJ : IntsA fz' lo' hi' w oa on oc os) (hh' : hi' ≤ w.heap.size) (hn : os.length ≤ 1048576) :
    Calls Try.prog 15 #[atomV s a n c, .slice oa on oc] w (GivesOwn w (colF xs os)) := by
  have hl := hJ.len
  have hs := hJ.small
  have hon : on ≤ 1048576 := by omega
  have HL := hid hl; clear hl hn
  have HJ := hid hJ; clear hJ
  go_enter Try.func15, Try.ntmps15
  go_wp2_with fail
  refine (specAtomVars s a n c xs _ (beInts (B := w.heap.size) hI (by repeat (first | with_reducible assumption | with_reducible exact Below.refl _ _ | with_reducible refine below_drewN ?_ _ | with_reducible refine Below.al ?_ (by first | with_reducible exact Nat.le_refl _ | omega | (simp; done) | (simp; omega) | exact Nat.le_refl _) _ | with_reducible refine Below.setCell ?_ (by first | with_reducible exact Nat.le_refl _ | omega | (simp; done) | (simp; omega) | exact Nat.le_refl _) _ | assumption | exact Below.refl _ _ | refine below_drewN ?_ _ | refine Below.al ?_ (by first | with_reducible exact Nat.le_refl _ | omega | (simp; done) | (simp; omega) | exact Nat.le_refl _) _ | refine Below.setCell ?_ (by first | with_reducible exact Nat.le_refl _ | omega | (simp; done) | (simp; omega) | exact Nat.le_refl _) _)) hh) (by first | with_reducible exact Nat.le_refl _ | omega | (simp; done) | (simp; omega) | exact Nat.le_refl _)).mono ?_
  rintro e w1 ⟨va, vn, vc, rfl, hov, hb1⟩
  have hb2 : Below w.heap.size w w1 := Below.trans (by repeat (first | with_reducible assumption | with_reducible exact Below.refl _ _ | with_reducible refine below_drewN ?_ _ | with_reducible refine Below.al ?_ (by first | with_reducible exact Nat.le_refl _ | omega | (simp; done) | (simp; omega) | exact Nat.le_refl _) _ | with_reducible refine Below.setCell ?_ (by first | with_reducible exact Nat.le_refl _ | omega | (simp; done) | (simp; omega) | exact Nat.le_refl _) _ | assumption | exact Below.refl _ _ | refine below_drewN ?_ _ | refine Below.al ?_ (by first | with_reducible exact Nat.le_refl _ | omega | (simp; done) | (simp; omega) | exact Nat.le_refl _) _ | refine Below.setCell ?_ (by first | with_reducible exact Nat.le_refl _ | omega | (simp; done) | (simp; omega) | exact Nat.le_refl _) _)) (hb1.mono (by first | with_reducible exact Nat.le_refl _ | omega | (simp; done) | (simp; omega) | exact Nat.le_refl _))
  have hz1 := hb2.size
  have HV : Hid (IntsA true 0 w1.heap.size w1 va vn vc (avTo xs 5)) := hid (wdInts hov.ints (Nat.zero_le _))
  have HB := hid hb2; clear hb1 hb2 hov hI
  obtain ⟨W, hW⟩ : ∃ W, W = w1.alloc (.cells #[] 3) := ⟨_, rfl⟩
  have hBW : Below w1.heap.size w1 W := by rw [hW]; exact (by repeat (first | with_reducible assumption | with_reducible exact Below.refl _ _ | with_reducible refine below_drewN ?_ _ | with_reducible refine Below.al ?_ (by first | with_reducible exact Nat.le_refl _ | omega | (simp; done) | (simp; omega) | exact Nat.le_refl _) _ | with_reducible refine Below.setCell ?_ (by first | with_reducible exact Nat.le_refl _ | omega | (simp; done) | (simp; omega) | exact Nat.le_refl _) _ | assumption | exact Below.refl _ _ | refine below_drewN ?_ _ | refine Below.al ?_ (by first | with_reducible exact Nat.le_refl _ | omega | (simp; done) | (simp; omega) | exact Nat.le_refl _) _ | refine Below.setCell ?_ (by first | with_reducible exact Nat.le_refl _ | omega | (simp; done) | (simp; omega) | exact Nat.le_refl _) _))
  have ho : Own w1.heap.size W (some ⟨w1.heap.size, 0, none⟩) 0 0 [] := own_empty2 _ _ _ (Nat.le_refl _) (by rw [hW]; exact heap_alloc_new _ _)
  have hzW : w1.heap.size ≤ W.heap.size := hBW.size
  have HW := hid (And.intro hW (And.intro hBW ho)); clear hW hBW ho
  go_upto_region 3 with fail
  rw [← HW.out.1]
  go_wp2_with fail
  go_loopw [6, 7] (fun v i wr => ∃ (k : Nat) (ao : Option Addr) (m co : Nat), i = .int .i64 k ∧ v = .slice ao m co ∧ k ≤ on ∧ Own w1.heap.size wr ao m co (colTo (avTo xs 5) os k) ∧ Below w1.heap.size W wr) (fun _ i _ => on - (intOf i).toNat)
  case atStart => exact ⟨0, _, 0, 0, rfl, rfl, by omega, HW.out.2.2, Below.refl _ _⟩
  case round =>
    obtain ⟨k, ao, m, co, rfl, rfl, hk, hown, hbel⟩ := hrel
    have hm : m ≤ k := by have g1 := hown.len; have g2 := colTo_len (avTo xs 5) os k; omega
    have hk2 : k ≤ 1048576 := by omega
    have hzw : w1.heap.size ≤ wr.heap.size := by have := hbel.size; omega
    have hb1r : Below w1.heap.size w1 wr := HW.out.2.1.trans hbel
    have HVr := hid (beInts HV.out hb1r (Nat.le_refl _))
    have HJr := hid (beInts (beInts HJ.out HB.out hh') hb1r (by omega))
    have HOI := hid hown.ints
    have HO := hid hown
    have HB2 := hid (And.intro hbel (HB.out.trans (hb1r.mono (by omega))))
    clear hown hbel hb1r
    by_cases hlt : k < on
    · obtain ⟨b, off, rfl, d1, _⟩ := intsAt' HJr.out hlt
      obtain ⟨q, hq⟩ : ∃ q, findF (avTo xs 5) (ix os k) = q := ⟨_, rfl⟩
      have hqb : q < 5 ∧ -1 ≤ q := by
        have g1 := findF_bd (avTo xs 5) (ix os k)
        have g2 := avTo_len xs 5
        rw [hq] at g1; omega
      have HP := hid (fun (h1 : 0 ≤ q) (h2 : findF (colTo (avTo xs 5) os k) q < 0) => colTo_put (k := k) hq h1 (by omega))
      have HKP := hid (fun (h : q < 0 ∨ 0 ≤ findF (colTo (avTo xs 5) os k) q) => colTo_keep (k := k) hq (by omega))
      have HC := hid (fun w' (h : IntsA true 0 w1.heap.size w' va vn vc (avTo xs 5)) => by have := specFind va vn vc (avTo xs 5) (ix os k) w' h; rwa [hq] at this)
      generalize hx : ix os k = x at *
      clear hq
      have HXX := hid hx; clear hx
      by_cases h0 : 0 ≤ q
      · obtain ⟨f, hf⟩ : ∃ f, findF (colTo (avTo xs 5) os k) q = f := ⟨_, rfl⟩
        have hi64 : I64 q := by unfold I64; omega
        have HQ := hid (And.intro hf hi64); clear hi64
        by_cases h2 : 0 ≤ f
        · have hdf : Hid (decide (0 ≤ f) = true) := hid (by simpa using h2)
          have HK := hid (HKP.out (.inr (by rw [hf]; exact h2)))
          clear hf
          go_wp2_with fail
          refine (HC.out _ HVr.out).mono ?_
          rintro e w3 ⟨rfl, m3, rfl⟩
          go_wp2_with fail
          refine (specFind ao m co _ q _ (HOI.out.drewN _)).mono ?_
          rintro e w4 ⟨rfl, m4, rfl⟩
          rw [HQ.out.1]
          go_wp2_with fail
          go_roundw
          case rel => exact ⟨k + 1, ao, m, co, by go_num, rfl, by omega, by rw [HK.out]; exact HO.out.keep (by repeat (first | assumption | exact Keeps.refl _ _ _ | exact HB.out.1 | refine Keeps.dr ?_ _ | refine Keeps.sc ?_ (by first | omega | (simp; done) | (simp; omega)) _ | refine Keeps.al ?_ (by first | with_reducible exact Nat.le_refl _ | omega | (simp; done) | (simp; omega) | exact Nat.le_refl _) _)), Below.trans HB2.out.1 (Below.mono (B' := w1.heap.size) (B := wr.heap.size) (by repeat (first | with_reducible assumption | with_reducible exact Below.refl _ _ | with_reducible refine below_drewN ?_ _ | with_reducible refine Below.al ?_ (by first | with_reducible exact Nat.le_refl _ | omega | (simp; done) | (simp; omega) | exact Nat.le_refl _) _ | with_reducible refine Below.setCell ?_ (by first | with_reducible exact Nat.le_refl _ | omega | (simp; done) | (simp; omega) | exact Nat.le_refl _) _ | assumption | exact Below.refl _ _ | refine below_drewN ?_ _ | refine Below.al ?_ (by first | with_reducible exact Nat.le_refl _ | omega | (simp; done) | (simp; omega) | exact Nat.le_refl _) _ | refine Below.setCell ?_ (by first | with_reducible exact Nat.le_refl _ | omega | (simp; done) | (simp; omega) | exact Nat.le_refl _) _)) (by omega))⟩
          case measure => simp [intOf]; omega
        · have hdf : Hid (decide (0 ≤ f) = false) := hid (by simpa using h2)
          have h1 : Hid (findF (colTo (avTo xs 5) os k) q < 0) := hid (by rw [hf]; omega)
          clear hf
          go_wp2_with fail
          refine (HC.out _ HVr.out).mono ?_
          rintro e w3 ⟨rfl, m3, rfl⟩
          go_wp2_with fail
          refine (specFind ao m co _ q _ (HOI.out.drewN _)).mono ?_
          rintro e w4 ⟨rfl, m4, rfl⟩
          rw [HQ.out.1]
          go_wp2_with (at_builtin; refine wpApp rfl (.tmp 32) (.tmp 34) rfl w1.heap.size ao m co _ rfl ((HO.out.keep (Keeps.of_below (B := wr.heap.size) (by repeat (first | with_reducible assumption | with_reducible exact Below.refl _ _ | with_reducible refine below_drewN ?_ _ | with_reducible refine Below.al ?_ (by first | with_reducible exact Nat.le_refl _ | omega | (simp; done) | (simp; omega) | exact Nat.le_refl _) _ | with_reducible refine Below.setCell ?_ (by first | with_reducible exact Nat.le_refl _ | omega | (simp; done) | (simp; omega) | exact Nat.le_refl _) _ | assumption | exact Below.refl _ _ | refine below_drewN ?_ _ | refine Below.al ?_ (by first | with_reducible exact Nat.le_refl _ | omega | (simp; done) | (simp; omega) | exact Nat.le_refl _) _ | refine Below.setCell ?_ (by first | with_reducible exact Nat.le_refl _ | omega | (simp; done) | (simp; omega) | exact Nat.le_refl _) _)) (Nat.le_refl _))).alloc _) _ 1 1 _ rfl (one_ints _ _ _ HQ.out.2) (by omega) (by simp; omega) ?_)
          intro a1 c1' w5 ho2 hg2
          have hb2 : Below w1.heap.size W w5 := Below.grown (Below.al (Below.trans HB2.out.1 (Below.mono (B' := w1.heap.size) (B := wr.heap.size) (by repeat (first | with_reducible assumption | with_reducible exact Below.refl _ _ | with_reducible refine below_drewN ?_ _ | with_reducible refine Below.al ?_ (by first | with_reducible exact Nat.le_refl _ | omega | (simp; done) | (simp; omega) | exact Nat.le_refl _) _ | with_reducible refine Below.setCell ?_ (by first | with_reducible exact Nat.le_refl _ | omega | (simp; done) | (simp; omega) | exact Nat.le_refl _) _ | assumption | exact Below.refl _ _ | refine below_drewN ?_ _ | refine Below.al ?_ (by first | with_reducible exact Nat.le_refl _ | omega | (simp; done) | (simp; omega) | exact Nat.le_refl _) _ | refine Below.setCell ?_ (by first | with_reducible exact Nat.le_refl _ | omega | (simp; done) | (simp; omega) | exact Nat.le_refl _) _)) (by omega))) (by first | omega | (simp; omega)) _) hg2 (by simp; omega) (fun j hj => by have := HO.out.1.lt j hj; omega)
          have HO2 := hid ho2; clear ho2
          have HB3 := hid hb2; clear hb2 hg2
          go_wp2
          go_roundw
          case rel => exact ⟨k + 1, a1, m + 1, c1', by go_num, rfl, by omega, by rw [HP.out h0 h1.out]; exact HO2.out, HB3.out⟩
          case measure => simp [intOf]; omega
      · have HK := hid (HKP.out (.inl (by omega)))
        go_wp2_with fail
        refine (HC.out _ HVr.out).mono ?_
        rintro e w3 ⟨rfl, m3, rfl⟩
        go_wp2_with fail
        go_roundw
        case rel => exact ⟨k + 1, ao, m, co, by go_num, rfl, by omega, by rw [HK.out]; exact HO.out.keep (by repeat (first | assumption | exact Keeps.refl _ _ _ | exact HB.out.1 | refine Keeps.dr ?_ _ | refine Keeps.sc ?_ (by first | omega | (simp; done) | (simp; omega)) _ | refine Keeps.al ?_ (by first | with_reducible exact Nat.le_refl _ | omega | (simp; done) | (simp; omega) | exact Nat.le_refl _) _)), Below.trans HB2.out.1 (Below.mono (B' := w1.heap.size) (B := wr.heap.size) (by repeat (first | with_reducible assumption | with_reducible exact Below.refl _ _ | with_reducible refine below_drewN ?_ _ | with_reducible refine Below.al ?_ (by first | with_reducible exact Nat.le_refl _ | omega | (simp; done) | (simp; omega) | exact Nat.le_refl _) _ | with_reducible refine Below.setCell ?_ (by first | with_reducible exact Nat.le_refl _ | omega | (simp; done) | (simp; omega) | exact Nat.le_refl _) _ | assumption | exact Below.refl _ _ | refine below_drewN ?_ _ | refine Below.al ?_ (by first | with_reducible exact Nat.le_refl _ | omega | (simp; done) | (simp; omega) | exact Nat.le_refl _) _ | refine Below.setCell ?_ (by first | with_reducible exact Nat.le_refl _ | omega | (simp; done) | (simp; omega) | exact Nat.le_refl _) _)) (by omega))⟩
        case measure => simp [intOf]; omega
    · go_wp2_with fail
      go_ret
      obtain rfl : k = on := by omega
      exact ⟨_, _, _, rfl, by unfold colF; rw [HL.out]; exact HO.out.low (by omega), HB2.out.2⟩
end Go.Proofs.Ytalfldflnacpeaa
