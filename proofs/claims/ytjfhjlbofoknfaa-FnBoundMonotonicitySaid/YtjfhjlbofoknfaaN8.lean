/- Walks: comparing big numbers. Written by nums8.py. -/
import Derived.Test.YtjfhjlbofoknfaaN4
import Derived.Test.YtjfhjlbofoknfaaQ2
namespace Go.Proofs.Ytjfhjlbofoknfaa
set_option linter.unusedSimpArgs false
set_option linter.unusedVariables false
open Go.RowKit
/-- the comparison of the first k digits, the highest first -/
def cmpTo (xs ys : List Int) : Nat → Int
  | 0 => 0
  | k + 1 => if ix xs k = ix ys k then cmpTo xs ys k else cmpI (ix xs k) (ix ys k)
def cmpB (xs ys : List Int) : Int := if (bigOK xs && bigOK ys) = true then (if xs.length = ys.length then cmpTo xs ys xs.length else cmpI xs.length ys.length) else 0
theorem cmpB_a {xs ys : List Int} (h : bigOK xs = false) : cmpB xs ys = 0 := by simp [cmpB, h]
theorem cmpB_b {xs ys : List Int} (h : bigOK ys = false) : cmpB xs ys = 0 := by simp [cmpB, h]
theorem cmpB_len {xs ys : List Int} (h1 : bigOK xs = true) (h2 : bigOK ys = true) (h : xs.length ≠ ys.length) : cmpB xs ys = cmpI xs.length ys.length := by simp [cmpB, h1, h2, h]
theorem cmpB_eq {xs ys : List Int} (h1 : bigOK xs = true) (h2 : bigOK ys = true) (h : xs.length = ys.length) : cmpB xs ys = cmpTo xs ys xs.length := by simp [cmpB, h1, h2, h]
theorem cmpI_lt {x y : Int} (h : x < y) : cmpI x y = -1 := by unfold cmpI; rw [if_pos h]
theorem cmpI_gt {x y : Int} (h : y < x) : cmpI x y = 1 := by unfold cmpI; rw [if_neg (by omega), if_pos h]
set_option maxRecDepth 100000 in
set_option maxHeartbeats 6400000 in
theorem implCmpBig {fz fz' : Bool} {lo hi lo' hi' : Nat} (a : Option Addr) (n c : Nat) (xs : List Int) (a2 : Option Addr) (n2 c2 : Nat) (ys : List Int) (w : World) (hI : IntsA fz lo hi w a n c xs) (hh : hi ≤ w.heap.size) (hJ : IntsA fz' lo' hi' w a2 n2 c2 ys) (hh' : hi' ≤ w.heap.size) :
    Calls Try.prog 14 #[bigV a n c, bigV a2 n2 c2] w (Leaves w (.int .i64 (cmpB xs ys))) := by
  have HLN := hid (And.intro hI.len hJ.len); have hs1 := hI.small; have hs2 := hJ.small
  have HI := hid hI; have HJ := hid hJ; clear hI hJ
  go_enter Try.func14, Try.ntmps14
  go_wp2_with fail
  refine absC (fun W => (W.cell? ⟨w.heap.size, 0, none⟩ = some (.slice a n c) ∧ W.cell? ⟨w.heap.size + 1, 0, none⟩ = some (.slice a2 n2 c2) ∧ w.heap.size < W.heap.size ∧ w.heap.size + 1 < W.heap.size ∧ w.heap.size + 2 ≤ W.heap.size ∧ hi ≤ W.heap.size ∧ hi' ≤ W.heap.size) ∧ Hid (IntsA fz lo hi W a n c xs) ∧ Hid (IntsA fz' lo' hi' W a2 n2 c2 ys) ∧ Hid (Below w.heap.size w W)) ⟨by (refine ⟨?_, ?_, ?_, ?_, ?_, ?_, ?_⟩) <;> (first | with_reducible assumption | ((try simp only [sz_alloc, sz_drewN, sz_drew1, sz_set]); omega) | (simp (disch := (first | omega | (simp only [sz_alloc, sz_drewN, sz_drew1, sz_set]; omega) | (simp (disch := (first | omega | (simp only [sz_alloc, sz_drewN, sz_drew1, sz_set]; omega))) only [calloc, cdrewN, cdrew1, cset_far, cset_off, *, Option.isSome_some]; done))) only [calloc, falloc, cdrewN, cdrew1, fdrewN, fdrew1, cset_far, cset_off, fset_any, World.cell?_setCell_same']; first | done | with_reducible assumption) | (go_simp; done) | (simp; done)), hid (IntsA.keep HI.out (by (repeat (first | (with_reducible refine Keeps.sc ?_ (by omega) _) | (with_reducible refine Keeps.al ?_ (by first | ((try simp only [sz_alloc, sz_drewN, sz_drew1, sz_set]); omega) | (simp; done) | (simp; omega)) _) | (with_reducible refine Keeps.dr ?_ _))); with_reducible exact Keeps.refl _ _ _)), hid (IntsA.keep HJ.out (by (repeat (first | (with_reducible refine Keeps.sc ?_ (by omega) _) | (with_reducible refine Keeps.al ?_ (by first | ((try simp only [sz_alloc, sz_drewN, sz_drew1, sz_set]); omega) | (simp; done) | (simp; omega)) _) | (with_reducible refine Keeps.dr ?_ _))); with_reducible exact Keeps.refl _ _ _)), hid (by (repeat (first | (with_reducible refine Below.setCell ?_ (by first | ((try simp only [sz_alloc, sz_drewN, sz_drew1, sz_set]); omega) | (simp; done) | (simp; omega)) _) | (with_reducible refine Below.al ?_ (by first | ((try simp only [sz_alloc, sz_drewN, sz_drew1, sz_set]); omega) | (simp; done) | (simp; omega)) _) | (with_reducible refine below_drewN ?_ _) | (with_reducible refine below_drew1 ?_))); with_reducible exact Below.refl _ _)⟩ ?_
  rintro v1 ⟨⟨kc0, kc1, ks0, ks1, ks2, ks3, ks4⟩, DA, DB, HBv1⟩
  refine (implValidBig a n c xs _ DA.out (by omega)).mono ?_
  rintro e v2 ⟨rfl, hb⟩
  have hz := hb.size
  have hFF : v2.cell? ⟨w.heap.size, 0, none⟩ = some (.slice a n c) ∧ v2.cell? ⟨w.heap.size + 1, 0, none⟩ = some (.slice a2 n2 c2) ∧ w.heap.size < v2.heap.size ∧ w.heap.size + 1 < v2.heap.size ∧ w.heap.size + 2 ≤ v2.heap.size ∧ hi ≤ v2.heap.size ∧ hi' ≤ v2.heap.size := by (refine ⟨?_, ?_, ?_, ?_, ?_, ?_, ?_⟩) <;> (first | omega | (rw [(bcell hb).1 _ _ (by omega)]; with_reducible assumption) | (rw [(bcell hb).2 _ _ (by omega)]; with_reducible assumption))
  replace DA : Hid (IntsA fz lo hi v2 a n c xs) := hid (IntsA.keep DA.out (Keeps.of_below hb (by omega)))
  replace DB : Hid (IntsA fz' lo' hi' v2 a2 n2 c2 ys) := hid (IntsA.keep DB.out (Keeps.of_below hb (by omega)))
  replace HBv1 : Hid (Below w.heap.size w v2) := hid (HBv1.out.trans (hb.mono (by omega)))
  clear kc0 kc1 ks0 ks1 ks2 ks3 ks4
  obtain ⟨kc0, kc1, ks0, ks1, ks2, ks3, ks4⟩ := hFF
  clear hz hb
  obtain ⟨va, hva⟩ : ∃ v, bigOK xs = v := ⟨_, rfl⟩
  rw [hva]; have HVA := hid hva; clear hva
  cases va with
  | false =>
    have HF := hid (cmpB_a (ys := ys) HVA.out)
    go_wp2
    go_ret
    exact ⟨by rw [HF.out]; rfl, HBv1.out⟩
  | true =>
    go_wp2_with fail
    refine (implValidBig a2 n2 c2 ys _ DB.out (by omega)).mono ?_
    rintro e v3 ⟨rfl, hb⟩
    have hz := hb.size
    have hFF : v3.cell? ⟨w.heap.size, 0, none⟩ = some (.slice a n c) ∧ v3.cell? ⟨w.heap.size + 1, 0, none⟩ = some (.slice a2 n2 c2) ∧ w.heap.size < v3.heap.size ∧ w.heap.size + 1 < v3.heap.size ∧ w.heap.size + 2 ≤ v3.heap.size ∧ hi ≤ v3.heap.size ∧ hi' ≤ v3.heap.size := by (refine ⟨?_, ?_, ?_, ?_, ?_, ?_, ?_⟩) <;> (first | omega | (rw [(bcell hb).1 _ _ (by omega)]; with_reducible assumption) | (rw [(bcell hb).2 _ _ (by omega)]; with_reducible assumption))
    replace DA : Hid (IntsA fz lo hi v3 a n c xs) := hid (IntsA.keep DA.out (Keeps.of_below hb (by omega)))
    replace DB : Hid (IntsA fz' lo' hi' v3 a2 n2 c2 ys) := hid (IntsA.keep DB.out (Keeps.of_below hb (by omega)))
    replace HBv1 : Hid (Below w.heap.size w v3) := hid (HBv1.out.trans (hb.mono (by omega)))
    clear kc0 kc1 ks0 ks1 ks2 ks3 ks4
    obtain ⟨kc0, kc1, ks0, ks1, ks2, ks3, ks4⟩ := hFF
    clear hz hb
    obtain ⟨vb, hvb⟩ : ∃ v, bigOK ys = v := ⟨_, rfl⟩
    rw [hvb]; have HVB := hid hvb; clear hvb
    cases vb with
    | false =>
      have HF := hid (cmpB_b (xs := xs) HVB.out)
      go_wp2
      go_ret
      exact ⟨by rw [HF.out]; rfl, HBv1.out⟩
    | true =>
      by_cases hne : n = n2
      · have hnb : ((n : Int) != (n2 : Int)) = false := by simp [hne]
        subst hne
        have HF := hid (cmpB_eq HVA.out HVB.out (by have h := HLN.out; omega))
        go_wp2_with fail
        go_loopw [5] (fun q wr => ∃ (k : Nat) (z : Int), q = .int .i64 z ∧ Hid (z = (k : Int) - 1) ∧ -1 ≤ z ∧ k ≤ n ∧ Hid (cmpTo xs ys k = cmpTo xs ys n) ∧ (∃ m, wr = v3.drewN m)) (fun q _ => (intOf q + 1).toNat)
        case atStart => exact ⟨n, (n : Int) - 1, rfl, hid rfl, by omega, Nat.le_refl _, hid rfl, 0, rfl⟩
        case round =>
          obtain ⟨k, z, rfl, HZ, hz1, hk, HT, m, rfl⟩ := hrel
          by_cases hk0 : k = 0
          · obtain rfl : z = -1 := by have h := HZ.out; omega
            have HR : Hid (cmpB xs ys = 0) := hid (by have h := HT.out; rw [hk0] at h; rw [HF.out, HLN.out.1, ← h]; rfl)
            have HK0 := hid hk0; clear hk0
            go_wp2_with fail
            go_ret
            exact ⟨by rw [HR.out]; rfl, (by (repeat (with_reducible refine below_drewN ?_ _)); exact HBv1.out)⟩
          · obtain ⟨j, rfl⟩ : ∃ j, k = j + 1 := ⟨k - 1, by omega⟩
            obtain rfl : z = (j : Int) := by have h := HZ.out; omega
            obtain ⟨ab, ao, hab, habh, d0⟩ := intsAtB DA.out (show j < n by omega)
            obtain ⟨bb, bo, hbb, hbbh, e0⟩ := intsAtB DB.out (show j < n by omega)
            subst hab hbb
            have hj1 : (j : Int) < (n : Int) := by omega
            generalize hx : ix xs j = x at *
            generalize hy : ix ys j = y at *
            have HXY := hid (And.intro hx hy); clear hx hy hk0
            by_cases he : x = y
            · have hb1 : (x != y) = false := by simp [he]
              have HT2 : Hid (cmpTo xs ys j = cmpTo xs ys n) := hid (by have h := HT.out; simp only [cmpTo] at h; rw [HXY.out.1, HXY.out.2, if_pos he] at h; exact h)
              have HE := hid he; clear he
              go_wp2_with fail
              go_quiet (fail)
              go_wp2_with fail
              go_roundw
              case rel => exact ⟨j, (j : Int) - 1, rfl, hid rfl, by omega, by omega, HT2, _, rfl⟩
              case measure => first | (simp [intOf]; done) | (simp [intOf]; omega)
            · have hb1 : (x != y) = true := by simp [he]
              have HR : Hid (cmpB xs ys = cmpI x y) := hid (by have h := HT.out; simp only [cmpTo] at h; rw [HXY.out.1, HXY.out.2, if_neg (by omega)] at h; rw [HF.out, HLN.out.1, ← h]; all_goals rfl)
              have HE := hid he; clear he
              have habs : ab < v3.heap.size := by omega
              have hbbs : bb < v3.heap.size := by omega
              go_wp2_with fail
              go_quiet (fail)
              go_wp2_with fail
              refine absR (fun W => (W.cell? ⟨w.heap.size, 0, none⟩ = some (.slice (some ⟨ab, ao, none⟩) n c) ∧ W.cell? ⟨w.heap.size + 1, 0, none⟩ = some (.slice (some ⟨bb, bo, none⟩) n c2) ∧ W.cell? ⟨ab, ao + j, none⟩ = some (.int .i64 x) ∧ W.cell? ⟨bb, bo + j, none⟩ = some (.int .i64 y) ∧ w.heap.size < W.heap.size ∧ w.heap.size + 1 < W.heap.size ∧ w.heap.size + 2 ≤ W.heap.size ∧ hi ≤ W.heap.size ∧ hi' ≤ W.heap.size ∧ ab < W.heap.size ∧ bb < W.heap.size) ∧ Hid (IntsA fz lo hi W (some ⟨ab, ao, none⟩) n c xs) ∧ Hid (IntsA fz' lo' hi' W (some ⟨bb, bo, none⟩) n c2 ys) ∧ Hid (Below w.heap.size w W)) ⟨by (refine ⟨?_, ?_, ?_, ?_, ?_, ?_, ?_, ?_, ?_, ?_, ?_⟩) <;> (first | with_reducible assumption | ((try simp only [sz_alloc, sz_drewN, sz_drew1, sz_set]); omega) | (simp (disch := (first | omega | (simp only [sz_alloc, sz_drewN, sz_drew1, sz_set]; omega) | (simp (disch := (first | omega | (simp only [sz_alloc, sz_drewN, sz_drew1, sz_set]; omega))) only [calloc, cdrewN, cdrew1, cset_far, cset_off, *, Option.isSome_some]; done))) only [calloc, falloc, cdrewN, cdrew1, fdrewN, fdrew1, cset_far, cset_off, fset_any, World.cell?_setCell_same']; first | done | with_reducible assumption) | (go_simp; done) | (simp; done)), hid (IntsA.keep DA.out (by (repeat (first | (with_reducible refine Keeps.sc ?_ (by omega) _) | (with_reducible refine Keeps.al ?_ (by first | ((try simp only [sz_alloc, sz_drewN, sz_drew1, sz_set]); omega) | (simp; done) | (simp; omega)) _) | (with_reducible refine Keeps.dr ?_ _))); with_reducible exact Keeps.refl _ _ _)), hid (IntsA.keep DB.out (by (repeat (first | (with_reducible refine Keeps.sc ?_ (by omega) _) | (with_reducible refine Keeps.al ?_ (by first | ((try simp only [sz_alloc, sz_drewN, sz_drew1, sz_set]); omega) | (simp; done) | (simp; omega)) _) | (with_reducible refine Keeps.dr ?_ _))); with_reducible exact Keeps.refl _ _ _)), hid (by (repeat (first | (with_reducible refine Below.setCell ?_ (by first | ((try simp only [sz_alloc, sz_drewN, sz_drew1, sz_set]); omega) | (simp; done) | (simp; omega)) _) | (with_reducible refine Below.al ?_ (by first | ((try simp only [sz_alloc, sz_drewN, sz_drew1, sz_set]); omega) | (simp; done) | (simp; omega)) _) | (with_reducible refine below_drewN ?_ _) | (with_reducible refine below_drew1 ?_))); with_reducible exact HBv1.out)⟩ ?_
              clear kc0 kc1 d0 e0 ks0 ks1 ks2 ks3 ks4 habs hbbs DA DB HBv1
              rintro v4 ⟨⟨kc0, kc1, d0, e0, ks0, ks1, ks2, ks3, ks4, habs, hbbs⟩, DA, DB, HBv4⟩
              have hLkc0 : ∀ x9 : Later v4.heap.size v4, x9.w.cell? ⟨w.heap.size, 0, none⟩ = some (.slice (some ⟨ab, ao, none⟩) n c) := fun x9 => x9.cell kc0 ks0
              have hLkc1 : ∀ x9 : Later v4.heap.size v4, x9.w.cell? ⟨w.heap.size + 1, 0, none⟩ = some (.slice (some ⟨bb, bo, none⟩) n c2) := fun x9 => x9.cell kc1 ks1
              have hLd0 : ∀ x9 : Later v4.heap.size v4, x9.w.cell? ⟨ab, ao + j, none⟩ = some (.int .i64 x) := fun x9 => x9.cell d0 habs
              have hLe0 : ∀ x9 : Later v4.heap.size v4, x9.w.cell? ⟨bb, bo + j, none⟩ = some (.int .i64 y) := fun x9 => x9.cell e0 hbbs
              have HC := hid (fun x8 : Later v4.heap.size v4 => later_gives x8 (Nat.le_refl _) (implCmp x y x8.w))
              clear kc0 kc1 d0 e0
              refine wp_region_later (B := v4.heap.size) (w0 := v4) (by kernel_rfl) (by kernel_rfl) (Below.refl _ _) ?_
              repeat (any_goals (first | go_big_quiet_step (((go_at_call 32; exact HC.out _))) | quiet_step (((go_at_call 32; exact HC.out _)))))
              refine wpQuiet_nil ?_
              intro _ hw'
              obtain ⟨nq, hw''⟩ := hw'
              subst hw''
              have hbq := nq.be; have hzq := hbq.size
              have kc0 := hLkc0 nq
              have kc1 := hLkc1 nq
              have d0 := hLd0 nq
              have e0 := hLe0 nq
              replace DA : Hid (IntsA fz lo hi nq.w (some ⟨ab, ao, none⟩) n c xs) := hid (IntsA.keep DA.out (Keeps.of_below hbq (by omega)))
              replace DB : Hid (IntsA fz' lo' hi' nq.w (some ⟨bb, bo, none⟩) n c2 ys) := hid (IntsA.keep DB.out (Keeps.of_below hbq (by omega)))
              replace HBv4 : Hid (Below w.heap.size w nq.w) := hid (HBv4.out.trans (hbq.mono (by omega)))
              replace ks0 : w.heap.size < nq.w.heap.size := (by omega)
              replace ks1 : w.heap.size + 1 < nq.w.heap.size := (by omega)
              replace ks2 : w.heap.size + 2 ≤ nq.w.heap.size := (by omega)
              replace ks3 : hi ≤ nq.w.heap.size := (by omega)
              replace ks4 : hi' ≤ nq.w.heap.size := (by omega)
              replace habs : ab < nq.w.heap.size := (by omega)
              replace hbbs : bb < nq.w.heap.size := (by omega)
              clear hbq hzq hLkc0 hLkc1 hLd0 hLe0
              generalize nq.w = v5 at *
              go_wp2_with fail
              go_ret
              exact ⟨by rw [HR.out]; rfl, HBv4.out⟩
      · have hnb : ((n : Int) != (n2 : Int)) = true := by simp; omega
        have HF : Hid (cmpB xs ys = cmpI (n : Int) (n2 : Int)) := hid (by rw [cmpB_len HVA.out HVB.out (by have h := HLN.out; omega), HLN.out.1, HLN.out.2])
        have HNE := hid hne; clear hne
        go_wp2_with fail
        refine (implCmp (n : Int) (n2 : Int) _).mono ?_
        rintro e w9 ⟨rfl, m9, rfl⟩
        go_wp2_with fail
        go_ret
        exact ⟨by rw [HF.out]; rfl, (by (repeat (with_reducible refine below_drewN ?_ _)); exact HBv1.out)⟩
set_option maxRecDepth 100000 in
set_option maxHeartbeats 6400000 in
theorem specCmpBig {fz fz' : Bool} {lo hi lo' hi' : Nat} (a : Option Addr) (n c : Nat) (xs : List Int) (a2 : Option Addr) (n2 c2 : Nat) (ys : List Int) (w : World) (hI : IntsA fz lo hi w a n c xs) (hh : hi ≤ w.heap.size) (hJ : IntsA fz' lo' hi' w a2 n2 c2 ys) (hh' : hi' ≤ w.heap.size) :
    Calls Try.prog 24 #[bigV a n c, bigV a2 n2 c2] w (Leaves w (.int .i64 (cmpB xs ys))) := by
  have HLN := hid (And.intro hI.len hJ.len); have hs1 := hI.small; have hs2 := hJ.small
  have HI := hid hI; have HJ := hid hJ; clear hI hJ
  go_enter Try.func24, Try.ntmps24
  go_wp2_with fail
  refine absC (fun W => (W.cell? ⟨w.heap.size, 0, none⟩ = some (.slice a n c) ∧ W.cell? ⟨w.heap.size + 1, 0, none⟩ = some (.slice a2 n2 c2) ∧ w.heap.size < W.heap.size ∧ w.heap.size + 1 < W.heap.size ∧ w.heap.size + 2 ≤ W.heap.size ∧ hi ≤ W.heap.size ∧ hi' ≤ W.heap.size) ∧ Hid (IntsA fz lo hi W a n c xs) ∧ Hid (IntsA fz' lo' hi' W a2 n2 c2 ys) ∧ Hid (Below w.heap.size w W)) ⟨by (refine ⟨?_, ?_, ?_, ?_, ?_, ?_, ?_⟩) <;> (first | with_reducible assumption | ((try simp only [sz_alloc, sz_drewN, sz_drew1, sz_set]); omega) | (simp (disch := (first | omega | (simp only [sz_alloc, sz_drewN, sz_drew1, sz_set]; omega) | (simp (disch := (first | omega | (simp only [sz_alloc, sz_drewN, sz_drew1, sz_set]; omega))) only [calloc, cdrewN, cdrew1, cset_far, cset_off, *, Option.isSome_some]; done))) only [calloc, falloc, cdrewN, cdrew1, fdrewN, fdrew1, cset_far, cset_off, fset_any, World.cell?_setCell_same']; first | done | with_reducible assumption) | (go_simp; done) | (simp; done)), hid (IntsA.keep HI.out (by (repeat (first | (with_reducible refine Keeps.sc ?_ (by omega) _) | (with_reducible refine Keeps.al ?_ (by first | ((try simp only [sz_alloc, sz_drewN, sz_drew1, sz_set]); omega) | (simp; done) | (simp; omega)) _) | (with_reducible refine Keeps.dr ?_ _))); with_reducible exact Keeps.refl _ _ _)), hid (IntsA.keep HJ.out (by (repeat (first | (with_reducible refine Keeps.sc ?_ (by omega) _) | (with_reducible refine Keeps.al ?_ (by first | ((try simp only [sz_alloc, sz_drewN, sz_drew1, sz_set]); omega) | (simp; done) | (simp; omega)) _) | (with_reducible refine Keeps.dr ?_ _))); with_reducible exact Keeps.refl _ _ _)), hid (by (repeat (first | (with_reducible refine Below.setCell ?_ (by first | ((try simp only [sz_alloc, sz_drewN, sz_drew1, sz_set]); omega) | (simp; done) | (simp; omega)) _) | (with_reducible refine Below.al ?_ (by first | ((try simp only [sz_alloc, sz_drewN, sz_drew1, sz_set]); omega) | (simp; done) | (simp; omega)) _) | (with_reducible refine below_drewN ?_ _) | (with_reducible refine below_drew1 ?_))); with_reducible exact Below.refl _ _)⟩ ?_
  rintro v1 ⟨⟨kc0, kc1, ks0, ks1, ks2, ks3, ks4⟩, DA, DB, HBv1⟩
  refine (specValidBig a n c xs _ DA.out (by omega)).mono ?_
  rintro e v2 ⟨rfl, hb⟩
  have hz := hb.size
  have hFF : v2.cell? ⟨w.heap.size, 0, none⟩ = some (.slice a n c) ∧ v2.cell? ⟨w.heap.size + 1, 0, none⟩ = some (.slice a2 n2 c2) ∧ w.heap.size < v2.heap.size ∧ w.heap.size + 1 < v2.heap.size ∧ w.heap.size + 2 ≤ v2.heap.size ∧ hi ≤ v2.heap.size ∧ hi' ≤ v2.heap.size := by (refine ⟨?_, ?_, ?_, ?_, ?_, ?_, ?_⟩) <;> (first | omega | (rw [(bcell hb).1 _ _ (by omega)]; with_reducible assumption) | (rw [(bcell hb).2 _ _ (by omega)]; with_reducible assumption))
  replace DA : Hid (IntsA fz lo hi v2 a n c xs) := hid (IntsA.keep DA.out (Keeps.of_below hb (by omega)))
  replace DB : Hid (IntsA fz' lo' hi' v2 a2 n2 c2 ys) := hid (IntsA.keep DB.out (Keeps.of_below hb (by omega)))
  replace HBv1 : Hid (Below w.heap.size w v2) := hid (HBv1.out.trans (hb.mono (by omega)))
  clear kc0 kc1 ks0 ks1 ks2 ks3 ks4
  obtain ⟨kc0, kc1, ks0, ks1, ks2, ks3, ks4⟩ := hFF
  clear hz hb
  obtain ⟨va, hva⟩ : ∃ v, bigOK xs = v := ⟨_, rfl⟩
  rw [hva]; have HVA := hid hva; clear hva
  cases va with
  | false =>
    have HF := hid (cmpB_a (ys := ys) HVA.out)
    go_wp2
    go_ret
    exact ⟨by rw [HF.out]; rfl, HBv1.out⟩
  | true =>
    go_wp2_with fail
    refine (specValidBig a2 n2 c2 ys _ DB.out (by omega)).mono ?_
    rintro e v3 ⟨rfl, hb⟩
    have hz := hb.size
    have hFF : v3.cell? ⟨w.heap.size, 0, none⟩ = some (.slice a n c) ∧ v3.cell? ⟨w.heap.size + 1, 0, none⟩ = some (.slice a2 n2 c2) ∧ w.heap.size < v3.heap.size ∧ w.heap.size + 1 < v3.heap.size ∧ w.heap.size + 2 ≤ v3.heap.size ∧ hi ≤ v3.heap.size ∧ hi' ≤ v3.heap.size := by (refine ⟨?_, ?_, ?_, ?_, ?_, ?_, ?_⟩) <;> (first | omega | (rw [(bcell hb).1 _ _ (by omega)]; with_reducible assumption) | (rw [(bcell hb).2 _ _ (by omega)]; with_reducible assumption))
    replace DA : Hid (IntsA fz lo hi v3 a n c xs) := hid (IntsA.keep DA.out (Keeps.of_below hb (by omega)))
    replace DB : Hid (IntsA fz' lo' hi' v3 a2 n2 c2 ys) := hid (IntsA.keep DB.out (Keeps.of_below hb (by omega)))
    replace HBv1 : Hid (Below w.heap.size w v3) := hid (HBv1.out.trans (hb.mono (by omega)))
    clear kc0 kc1 ks0 ks1 ks2 ks3 ks4
    obtain ⟨kc0, kc1, ks0, ks1, ks2, ks3, ks4⟩ := hFF
    clear hz hb
    obtain ⟨vb, hvb⟩ : ∃ v, bigOK ys = v := ⟨_, rfl⟩
    rw [hvb]; have HVB := hid hvb; clear hvb
    cases vb with
    | false =>
      have HF := hid (cmpB_b (xs := xs) HVB.out)
      go_wp2
      go_ret
      exact ⟨by rw [HF.out]; rfl, HBv1.out⟩
    | true =>
      by_cases hne : n = n2
      · have hnb : ((n : Int) != (n2 : Int)) = false := by simp [hne]
        subst hne
        have HF := hid (cmpB_eq HVA.out HVB.out (by have h := HLN.out; omega))
        go_wp2_with fail
        go_loopw [5] (fun q wr => ∃ (k : Nat) (z : Int), q = .int .i64 z ∧ Hid (z = (k : Int) - 1) ∧ -1 ≤ z ∧ k ≤ n ∧ Hid (cmpTo xs ys k = cmpTo xs ys n) ∧ (∃ m, wr = v3.drewN m)) (fun q _ => (intOf q + 1).toNat)
        case atStart => exact ⟨n, (n : Int) - 1, rfl, hid rfl, by omega, Nat.le_refl _, hid rfl, 0, rfl⟩
        case round =>
          obtain ⟨k, z, rfl, HZ, hz1, hk, HT, m, rfl⟩ := hrel
          by_cases hk0 : k = 0
          · obtain rfl : z = -1 := by have h := HZ.out; omega
            have HR : Hid (cmpB xs ys = 0) := hid (by have h := HT.out; rw [hk0] at h; rw [HF.out, HLN.out.1, ← h]; rfl)
            have HK0 := hid hk0; clear hk0
            go_wp2_with fail
            go_ret
            exact ⟨by rw [HR.out]; rfl, (by (repeat (with_reducible refine below_drewN ?_ _)); exact HBv1.out)⟩
          · obtain ⟨j, rfl⟩ : ∃ j, k = j + 1 := ⟨k - 1, by omega⟩
            obtain rfl : z = (j : Int) := by have h := HZ.out; omega
            obtain ⟨ab, ao, hab, habh, d0⟩ := intsAtB DA.out (show j < n by omega)
            obtain ⟨bb, bo, hbb, hbbh, e0⟩ := intsAtB DB.out (show j < n by omega)
            subst hab hbb
            have hj1 : (j : Int) < (n : Int) := by omega
            generalize hx : ix xs j = x at *
            generalize hy : ix ys j = y at *
            have HXY := hid (And.intro hx hy); clear hx hy hk0
            by_cases hl : x < y
            · have hb1 : decide (x < y) = true := by simpa using hl
              have HR : Hid (cmpB xs ys = -1) := hid (by have h := HT.out; simp only [cmpTo] at h; rw [HXY.out.1, HXY.out.2, if_neg (by omega)] at h; rw [HF.out, HLN.out.1, ← h]; exact cmpI_lt hl)
              have HE := hid hl; clear hl
              go_wp2_with fail
              go_quiet (fail)
              go_wp2_with fail
              go_ret
              exact ⟨by rw [HR.out]; rfl, (by (repeat (with_reducible refine below_drewN ?_ _)); exact HBv1.out)⟩
            · have hb1 : decide (x < y) = false := by simpa using hl
              by_cases hg : y < x
              · have hb2 : decide (y < x) = true := by simpa using hg
                have HR : Hid (cmpB xs ys = 1) := hid (by have h := HT.out; simp only [cmpTo] at h; rw [HXY.out.1, HXY.out.2, if_neg (by omega)] at h; rw [HF.out, HLN.out.1, ← h]; exact cmpI_gt hg)
                have HE := hid (And.intro hl hg); clear hl hg
                go_wp2_with fail
                go_quiet (fail)
                go_wp2_with fail
                go_quiet (fail)
                go_wp2_with fail
                go_ret
                exact ⟨by rw [HR.out]; rfl, (by (repeat (with_reducible refine below_drewN ?_ _)); exact HBv1.out)⟩
              · have hb2 : decide (y < x) = false := by simpa using hg
                have HT2 : Hid (cmpTo xs ys j = cmpTo xs ys n) := hid (by have h := HT.out; simp only [cmpTo] at h; rw [HXY.out.1, HXY.out.2, if_pos (by omega)] at h; exact h)
                have HE := hid (And.intro hl hg); clear hl hg
                go_wp2_with fail
                go_quiet (fail)
                go_wp2_with fail
                go_quiet (fail)
                go_wp2_with fail
                go_roundw
                case rel => exact ⟨j, (j : Int) - 1, rfl, hid rfl, by omega, by omega, HT2, _, rfl⟩
                case measure => first | (simp [intOf]; done) | (simp [intOf]; omega)
      · have hnb : ((n : Int) != (n2 : Int)) = true := by simp; omega
        have HF : Hid (cmpB xs ys = cmpI (n : Int) (n2 : Int)) := hid (by rw [cmpB_len HVA.out HVB.out (by have h := HLN.out; omega), HLN.out.1, HLN.out.2])
        by_cases hl : n < n2
        · have hb1 : decide ((n : Int) < (n2 : Int)) = true := by simp; omega
          have hb2 : decide (n < n2) = true := by simpa using hl
          have hb3 := hl
          have HG := hid (cmpI_lt (x := (n : Int)) (y := (n2 : Int)) (by omega)); have HNE := hid (And.intro hne hl); clear hne hl
          go_wp2_with fail
          go_ret
          exact ⟨by rw [HF.out, HG.out]; rfl, HBv1.out⟩
        · have hb1 : decide ((n : Int) < (n2 : Int)) = false := by simp; omega
          have hb2 : decide (n < n2) = false := by simpa using hl
          have hb3 := hl
          have hb4 : n2 ≤ n := by omega
          have HG := hid (cmpI_gt (x := (n : Int)) (y := (n2 : Int)) (by omega)); have HNE := hid (And.intro hne hl); clear hne hl
          go_wp2_with fail
          go_ret
          exact ⟨by rw [HF.out, HG.out]; rfl, HBv1.out⟩
end Go.Proofs.Ytjfhjlbofoknfaa
