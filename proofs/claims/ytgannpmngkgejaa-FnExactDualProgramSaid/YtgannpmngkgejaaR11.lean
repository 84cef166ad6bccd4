/- Walks: the product of a matrix and a vector, both sides. -/
import Derived.Test.YtgannpmngkgejaaR10b
import Derived.Test.YtgannpmngkgejaaVals
namespace Go.Proofs.Ytgannpmngkgejaa
set_option linter.unusedSimpArgs false
set_option linter.unusedVariables false
open Go.RowKit
/-- the first k inner products -/
def mvTo (A : List (List RatD)) (x : List RatD) : Nat → List RatD
  | 0 => []
  | k + 1 => mvTo A x k ++ [⟨(dotR (mx A k) x).1, (dotR (mx A k) x).2.1⟩]
theorem mvTo_len (A : List (List RatD)) (x : List RatD) (k : Nat) : (mvTo A x k).length = k := by
  induction k with
  | zero => rfl
  | succ k ih => simp [mvTo, ih]
/-- all inner products are there -/
def mvOK (A : List (List RatD)) (x : List RatD) : Bool := decide (∀ i, i < A.length → (dotR (mx A i) x).2.2 = true)
theorem mvOK_true {A : List (List RatD)} {x : List RatD} (h : ∀ i, i < A.length → (dotR (mx A i) x).2.2 = true) : mvOK A x = true := by simpa [mvOK] using h
theorem mvOK_false {A : List (List RatD)} {x : List RatD} {i : Nat} (hi : i < A.length) (h : (dotR (mx A i) x).2.2 = false) : mvOK A x = false := by
  simp only [mvOK, decide_eq_false_iff_not]; intro hh; rw [hh i hi] at h; cases h
def mvL (A : List (List RatD)) (x : List RatD) : List RatD := if mvOK A x = true then mvTo A x A.length else []
theorem mvL_yes {A : List (List RatD)} {x : List RatD} (h : mvOK A x = true) : mvL A x = mvTo A x A.length := by simp [mvL, h]
theorem mvL_no {A : List (List RatD)} {x : List RatD} (h : mvOK A x = false) : mvL A x = [] := by simp [mvL, h]
/-- The call returns a slice of rational numbers of its own and a bool; nothing that was there has turned. -/
def GivesRB (w : World) (xs : List RatD) (ok : Bool) (e : Ending) (w' : World) : Prop :=
  ∃ a n c, e = .returned (.tuple #[.slice a n c, .bool ok]) ∧ OwnR w.heap.size w' a n c xs ∧ Below w.heap.size w w'
theorem OwnR.grow2 {B B0 : Nat} {w wr w1 : World} {o1 o2 : Obj} {a : Option Addr} {n c : Nat} {xs : List RatD} (h : OwnR B wr a n c xs) (hb : Below B0 w wr) (h0 : B0 ≤ B) (hB : B0 ≤ wr.heap.size) (hg : ((wr.alloc o1).alloc o2).grownBy w1 (Value.slice a n c).ownBlock) : Below B0 w w1 :=
  ((hb.alloc hB o1).alloc (by simp; omega) o2).grown hg (by simp; omega) (fun k hk => by have := h.1.1.lt k hk; omega)
theorem OwnR.grow1 {B B0 : Nat} {w wr w1 : World} {o1 : Obj} {a : Option Addr} {n c : Nat} {xs : List RatD} (h : OwnR B wr a n c xs) (hb : Below B0 w wr) (h0 : B0 ≤ B) (hB : B0 ≤ wr.heap.size) (hg : (wr.alloc o1).grownBy w1 (Value.slice a n c).ownBlock) : Below B0 w w1 :=
  (hb.alloc hB o1).grown hg (by simp; omega) (fun k hk => by have := h.1.1.lt k hk; omega)
set_option maxRecDepth 100000 in
set_option maxHeartbeats 6400000 in
theorem implMV {fz fz' : Bool} {lo hi lo' hi' : Nat} (a : Option Addr) (n c : Nat) (xs : List (List RatD)) (a' : Option Addr) (n' c' : Nat) (ys : List RatD) (w : World) (hI : MatA fz lo hi w a n c xs) (hh : hi ≤ w.heap.size) (hJ : RatsA fz' lo' hi' w a' n' c' ys) (hh' : hi' ≤ w.heap.size) (hn : n ≤ 1048576) :
    Calls Try.prog 43 #[.slice a n c, .slice a' n' c'] w (GivesRB w (mvL xs ys) (mvOK xs ys)) := by
  have hl := hI.len
  have HL := hid hl; clear hl
  go_enter Try.func43, Try.ntmps43
  go_wp2_with fail
  go_loopw [13, 6, 8, 9, 10] (fun i v _ _ _ wr => ∃ (k : Nat) (ao : Option Addr) (m co : Nat), i = .int .i64 k ∧ v = .slice ao m co ∧ k ≤ n ∧ Hid (OwnR w.heap.size wr ao m co (mvTo xs ys k)) ∧ Hid (∀ i, i < k → (dotR (mx xs i) ys).2.2 = true) ∧ Hid (Below w.heap.size w wr)) (fun i v _ _ _ _ => n - (intOf i).toNat)
  case atStart => exact ⟨0, _, 0, 0, rfl, rfl, by omega, hid (ownR_nil _ _), hid (fun i hi => by omega), hid (Below.refl _ _)⟩
  case round =>
    obtain ⟨k, ao, m, co, rfl, rfl, hk, HO, HA, HB⟩ := hrel
    have hmk : m = k := by have := HO.out.len; rw [mvTo_len] at this; exact this.symm
    have hmb : m ≤ 1048576 := by omega
    by_cases hlt : k < n
    · have hzr := HB.out.size
      have hIr := beMat hI HB.out hh
      have hJr := beRats hJ HB.out hh'
      obtain ⟨b, off, rfl⟩ := matSome hIr (by omega)
      obtain ⟨_, _, ra, rn, rc, d0, hr, _⟩ := matAt hIr hlt
      have HMK := hid hmk; clear hmk
      have HI := hid (And.intro hIr (And.intro hr hJr)); clear hIr hr hJr
      obtain ⟨⟨pn, pd, pk⟩, hd⟩ : ∃ r, dotR (mx xs k) ys = r := ⟨_, rfl⟩
      have h64 := (dotR_res (mx xs k) ys).i64; rw [hd] at h64
      have HP := hid (And.intro hd h64); clear hd h64
      cases pk with
      | true =>
        go_wp2_with fail
        refine (implDot ra rn rc (mx xs k) a' n' c' ys _ HI.out.2.1 (by omega) HI.out.2.2 (by omega)).mono ?_
        rintro e w2 ⟨rfl, hb2⟩
        rw [HP.out.1]
        have hz2 := hb2.size
        have HB2 := hid (HB.out.trans (hb2.mono (by omega)))
        have HO2 := hid (HO.out.keep (Keeps.of_below hb2 (Nat.le_refl _)))
        clear hb2
        go_wp2_with (at_builtin; refine wpAppF elemRat rfl (.tmp 25) (.tmp 27) rfl w.heap.size ao m co _ rfl ((HO2.out.alloc _).alloc _).1 _ 1 1 (flatR [⟨pn, pd⟩]) rfl (rats_one _ _ ⟨pn, pd⟩ 0 _ (Nat.zero_le _) (Nat.lt_succ_self _) (at1 _ _ _)) (by omega) (by first | omega | (simp; omega)) ?_)
        intro a1 c1' w5 ho2 hg2
        have hb5 : Below w.heap.size w w5 := HO2.out.grow2 HB2.out (Nat.le_refl _) (by omega) hg2
        have HO5 := hid (ownR_mk ho2 HO2.out.2 HP.out.2); clear ho2 hg2
        have HB5 := hid hb5; clear hb5
        go_wp2
        go_roundw
        case rel => exact ⟨k + 1, a1, m + 1, c1', by go_num, rfl, by omega, hid (by simp only [mvTo]; rw [HP.out.1]; exact HO5.out), hid (fun i hi => by
          by_cases e : i = k
          · subst e; rw [HP.out.1]
          · exact HA.out i (by omega)), HB5⟩
        case measure => simp [intOf]; omega
      | false =>
        go_wp2_with fail
        refine (implDot ra rn rc (mx xs k) a' n' c' ys _ HI.out.2.1 (by omega) HI.out.2.2 (by omega)).mono ?_
        rintro e w2 ⟨rfl, hb2⟩
        rw [HP.out.1]
        have hz2 := hb2.size
        have HB2 := hid (HB.out.trans (hb2.mono (by omega)))
        have HO2 := hid (HO.out.keep (Keeps.of_below hb2 (Nat.le_refl _)))
        clear hb2
        have HF := hid (mvOK_false (A := xs) (x := ys) (i := k) (by rw [HL.out]; exact hlt) (by rw [HP.out.1]))
        go_wp2_with fail
        go_ret2
        exact ⟨none, 0, 0, by rw [HF.out]; rfl, by rw [mvL_no HF.out]; exact ownR_nil _ _, by have hq := HB2.out; exact (by repeat (first | assumption | exact Below.refl _ _ | refine below_drewN ?_ _ | refine below_drew1 ?_ | refine Below.al ?_ (by first | exact Nat.le_refl _ | omega | (simp; done) | (simp; omega)) _ | refine Below.setCell ?_ (by first | exact Nat.le_refl _ | omega | (simp; done) | (simp; omega)) _))⟩
    · obtain rfl : k = n := by omega
      have HF := hid (mvOK_true (A := xs) (x := ys) (by rw [HL.out]; exact HA.out))
      go_wp2_with fail
      go_ret2
      exact ⟨_, _, _, by rw [HF.out]; rfl, by rw [mvL_yes HF.out, HL.out]; exact HO.out, HB.out⟩
set_option maxRecDepth 100000 in
set_option maxHeartbeats 6400000 in
theorem specMV {fz fz' : Bool} {lo hi lo' hi' : Nat} (a : Option Addr) (n c : Nat) (xs : List (List RatD)) (a' : Option Addr) (n' c' : Nat) (ys : List RatD) (w : World) (hI : MatA fz lo hi w a n c xs) (hh : hi ≤ w.heap.size) (hJ : RatsA fz' lo' hi' w a' n' c' ys) (hh' : hi' ≤ w.heap.size) (hn : n ≤ 1048576) :
    Calls Try.prog 41 #[.slice a n c, .slice a' n' c'] w (GivesRB w (mvL xs ys) (mvOK xs ys)) := by
  have hl := hI.len
  have HL := hid hl; clear hl
  obtain ⟨W, hW⟩ : ∃ W, W = w.alloc (.cells #[] 53) := ⟨_, rfl⟩
  have hBW : Below w.heap.size w W := by rw [hW]; exact (by repeat (first | assumption | exact Below.refl _ _ | refine below_drewN ?_ _ | refine Below.al ?_ (by first | exact Nat.le_refl _ | omega | (simp; done) | (simp; omega)) _ | refine Below.setCell ?_ (by first | exact Nat.le_refl _ | omega | (simp; done) | (simp; omega)) _))
  have hgW : W.heap[w.heap.size]? = some (.cells #[] 53 (0, 0)) := by rw [hW]; exact heap_alloc_new _ _
  have HW := hid (And.intro hW (And.intro hBW hgW)); clear hW hBW hgW
  go_enter Try.func41, Try.ntmps41
  go_upto_region 2 with fail
  rw [← HW.out.1]
  go_wp2_with fail
  go_loopw [7, 6, 8, 9] (fun i v _ _ wr => ∃ (k : Nat) (ao : Option Addr) (m co : Nat), i = .int .i64 k ∧ v = .slice ao m co ∧ k ≤ n ∧ Hid (OwnR w.heap.size wr ao m co (mvTo xs ys k)) ∧ Hid (∀ i, i < k → (dotR (mx xs i) ys).2.2 = true) ∧ Hid (Below w.heap.size w wr)) (fun i v _ _ _ => n - (intOf i).toNat)
  case atStart => exact ⟨0, _, 0, 0, rfl, rfl, by omega, hid (ownR_empty _ _ _ (Nat.le_refl _) HW.out.2.2), hid (fun i hi => by omega), hid HW.out.2.1⟩
  case round =>
    obtain ⟨k, ao, m, co, rfl, rfl, hk, HO, HA, HB⟩ := hrel
    have hmk : m = k := by have := HO.out.len; rw [mvTo_len] at this; exact this.symm
    have hmb : m ≤ 1048576 := by omega
    by_cases hlt : k < n
    · have hzr := HB.out.size
      have hIr := beMat hI HB.out hh
      have hJr := beRats hJ HB.out hh'
      obtain ⟨b, off, rfl⟩ := matSome hIr (by omega)
      obtain ⟨_, _, ra, rn, rc, d0, hr, _⟩ := matAt hIr hlt
      have HMK := hid hmk; clear hmk
      have HI := hid (And.intro hIr (And.intro hr hJr)); clear hIr hr hJr
      obtain ⟨⟨pn, pd, pk⟩, hd⟩ : ∃ r, dotR (mx xs k) ys = r := ⟨_, rfl⟩
      have h64 := (dotR_res (mx xs k) ys).i64; rw [hd] at h64
      have HP := hid (And.intro hd h64); clear hd h64
      cases pk with
      | true =>
        go_wp2_with fail
        refine (specDot ra rn rc (mx xs k) a' n' c' ys _ HI.out.2.1 (by omega) HI.out.2.2 (by omega)).mono ?_
        rintro e w2 ⟨rfl, hb2⟩
        rw [HP.out.1]
        have hz2 := hb2.size
        have HB2 := hid (HB.out.trans (hb2.mono (by omega)))
        have HO2 := hid (HO.out.keep (Keeps.of_below hb2 (Nat.le_refl _)))
        clear hb2
        go_wp2_with (at_builtin; refine wpAppF elemRat rfl (.tmp 29) (.tmp 31) rfl w.heap.size ao m co _ rfl ((HO2.out.alloc _).alloc _).1 _ 1 1 (flatR [⟨pn, pd⟩]) rfl (rats_one _ _ ⟨pn, pd⟩ 0 _ (Nat.zero_le _) (Nat.lt_succ_self _) (at1 _ _ _)) (by omega) (by first | omega | (simp; omega)) ?_)
        intro a1 c1' w5 ho2 hg2
        have hb5 : Below w.heap.size w w5 := HO2.out.grow2 HB2.out (Nat.le_refl _) (by omega) hg2
        have HO5 := hid (ownR_mk ho2 HO2.out.2 HP.out.2); clear ho2 hg2
        have HB5 := hid hb5; clear hb5
        go_wp2
        go_roundw
        case rel => exact ⟨k + 1, a1, m + 1, c1', by go_num, rfl, by omega, hid (by simp only [mvTo]; rw [HP.out.1]; exact HO5.out), hid (fun i hi => by
          by_cases e : i = k
          · subst e; rw [HP.out.1]
          · exact HA.out i (by omega)), HB5⟩
        case measure => simp [intOf]; omega
      | false =>
        go_wp2_with fail
        refine (specDot ra rn rc (mx xs k) a' n' c' ys _ HI.out.2.1 (by omega) HI.out.2.2 (by omega)).mono ?_
        rintro e w2 ⟨rfl, hb2⟩
        rw [HP.out.1]
        have hz2 := hb2.size
        have HB2 := hid (HB.out.trans (hb2.mono (by omega)))
        have HO2 := hid (HO.out.keep (Keeps.of_below hb2 (Nat.le_refl _)))
        clear hb2
        have HF := hid (mvOK_false (A := xs) (x := ys) (i := k) (by rw [HL.out]; exact hlt) (by rw [HP.out.1]))
        go_wp2_with fail
        go_ret2
        exact ⟨_, 0, 0, by rw [HF.out]; rfl, by rw [mvL_no HF.out]; exact ownR_empty _ _ _ (by first | omega | (simp; omega)) (at1 _ _ _), by have hq := HB2.out; exact (by repeat (first | assumption | exact Below.refl _ _ | refine below_drewN ?_ _ | refine below_drew1 ?_ | refine Below.al ?_ (by first | exact Nat.le_refl _ | omega | (simp; done) | (simp; omega)) _ | refine Below.setCell ?_ (by first | exact Nat.le_refl _ | omega | (simp; done) | (simp; omega)) _))⟩
    · obtain rfl : k = n := by omega
      have HF := hid (mvOK_true (A := xs) (x := ys) (by rw [HL.out]; exact HA.out))
      go_wp2_with fail
      go_ret2
      exact ⟨_, _, _, by rw [HF.out]; rfl, by rw [mvL_yes HF.out, HL.out]; exact HO.out, HB.out⟩
end Go.Proofs.Ytgannpmngkgejaa
