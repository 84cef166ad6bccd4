/- The walk of the test of an order, both sides. -/
import Derived.Test.YtalfldflnacpeaaB4
namespace Go.Proofs.Ytalfldflnacpeaa
set_option linter.unusedSimpArgs false
set_option linter.unusedVariables false
open Go.RowKit
/-- what IsValidOrder returns -/
noncomputable def ordOK (nv : Int) (xs : List AtomD) (us os : List Int) : Bool := qOK nv xs us && (decide ((os.length : Int) = nv) && setB os nv)
theorem ordOK_no {nv : Int} {xs : List AtomD} {us os : List Int} (h : qOK nv xs us = false) : ordOK nv xs us os = false := by simp [ordOK, h]
theorem ordOK_len {nv : Int} {xs : List AtomD} {us os : List Int} (h : ¬ (os.length : Int) = nv) : ordOK nv xs us os = false := by simp [ordOK, h]
theorem ordOK_set {nv : Int} {xs : List AtomD} {us os : List Int} (h1 : qOK nv xs us = true) (h : (os.length : Int) = nv) : ordOK nv xs us os = setB os nv := by simp [ordOK, h1, h]
set_option maxHeartbeats 1600000 in
theorem implOrd {fz fz' : Bool} {lo hi lo' hi' : Nat} (nv : Int) (a : Option Addr) (n c : Nat) (xs : List AtomD) (ua : Option Addr) (un uc : Nat) (us : List Int) (oa : Option Addr) (on oc : Nat) (os : List Int) (w : World)
    (hI : QueryA fz lo hi w nv a n c xs ua un uc us) (hh : hi ≤ w.heap.size) (hJ : IntsA fz' lo' hi' w oa on oc os) (hh' : hi' ≤ w.heap.size) :
    Calls Try.prog 36 #[queryV nv a n c ua un uc, .slice oa on oc] w (Leaves w (.bool (ordOK nv xs us os))) := by
  have hnv := hI.1
  have hol := hJ.len
  have hos := hJ.small
  have HI := hid hI; clear hI
  have HJ := hid hJ; clear hJ
  have HOL := hid hol; clear hol
  obtain ⟨q, hq⟩ : ∃ q, qOK nv xs us = q := ⟨_, rfl⟩
  have HQ := hid hq; clear hq
  cases q with
  | false =>
    have HF := hid (ordOK_no (os := os) HQ.out)
    go_enter Try.func36, Try.ntmps36
    go_wp2_with fail
    refine (implValidQ nv a n c xs ua un uc us _ (beQuery (B := w.heap.size) HI.out (by repeat (first | with_reducible assumption | with_reducible exact Below.refl _ _ | with_reducible refine below_drewN ?_ _ | with_reducible refine Below.al ?_ (by first | with_reducible exact Nat.le_refl _ | omega | (simp; done) | (simp; omega) | exact Nat.le_refl _) _ | with_reducible refine Below.setCell ?_ (by first | with_reducible exact Nat.le_refl _ | omega | (simp; done) | (simp; omega) | exact Nat.le_refl _) _ | assumption | exact Below.refl _ _ | refine below_drewN ?_ _ | refine Below.al ?_ (by first | with_reducible exact Nat.le_refl _ | omega | (simp; done) | (simp; omega) | exact Nat.le_refl _) _ | refine Below.setCell ?_ (by first | with_reducible exact Nat.le_refl _ | omega | (simp; done) | (simp; omega) | exact Nat.le_refl _) _)) hh) (by first | with_reducible exact Nat.le_refl _ | omega | (simp; done) | (simp; omega) | exact Nat.le_refl _)).mono ?_
    rintro e w1 ⟨rfl, hb1⟩
    rw [HQ.out]
    have HB := hid (Below.trans (b := w.alloc (.cells #[.int .i64 nv, .slice a n c, .slice ua un uc] 27)) (B := w.heap.size) (a := w) (by repeat (first | with_reducible assumption | with_reducible exact Below.refl _ _ | with_reducible refine below_drewN ?_ _ | with_reducible refine Below.al ?_ (by first | with_reducible exact Nat.le_refl _ | omega | (simp; done) | (simp; omega) | exact Nat.le_refl _) _ | with_reducible refine Below.setCell ?_ (by first | with_reducible exact Nat.le_refl _ | omega | (simp; done) | (simp; omega) | exact Nat.le_refl _) _ | assumption | exact Below.refl _ _ | refine below_drewN ?_ _ | refine Below.al ?_ (by first | with_reducible exact Nat.le_refl _ | omega | (simp; done) | (simp; omega) | exact Nat.le_refl _) _ | refine Below.setCell ?_ (by first | with_reducible exact Nat.le_refl _ | omega | (simp; done) | (simp; omega) | exact Nat.le_refl _) _)) (hb1.mono (by first | with_reducible exact Nat.le_refl _ | omega | (simp; done) | (simp; omega) | exact Nat.le_refl _))); clear hb1
    go_wp2_with fail
    go_ret
    exact ⟨by rw [HF.out]; rfl, HB.out⟩
  | true =>
    go_enter Try.func36, Try.ntmps36
    go_wp2_with fail
    refine (implValidQ nv a n c xs ua un uc us _ (beQuery (B := w.heap.size) HI.out (by repeat (first | with_reducible assumption | with_reducible exact Below.refl _ _ | with_reducible refine below_drewN ?_ _ | with_reducible refine Below.al ?_ (by first | with_reducible exact Nat.le_refl _ | omega | (simp; done) | (simp; omega) | exact Nat.le_refl _) _ | with_reducible refine Below.setCell ?_ (by first | with_reducible exact Nat.le_refl _ | omega | (simp; done) | (simp; omega) | exact Nat.le_refl _) _ | assumption | exact Below.refl _ _ | refine below_drewN ?_ _ | refine Below.al ?_ (by first | with_reducible exact Nat.le_refl _ | omega | (simp; done) | (simp; omega) | exact Nat.le_refl _) _ | refine Below.setCell ?_ (by first | with_reducible exact Nat.le_refl _ | omega | (simp; done) | (simp; omega) | exact Nat.le_refl _) _)) hh) (by first | with_reducible exact Nat.le_refl _ | omega | (simp; done) | (simp; omega) | exact Nat.le_refl _)).mono ?_
    rintro e w1 ⟨rfl, hb1⟩
    rw [HQ.out]
    have c0 : w1.cell? ⟨w.heap.size, 0, none⟩ = some (.int .i64 nv) := (by rw [(bcell hb1).1 _ _ (by first | omega | (simp; done) | (simp; omega))]; first | with_reducible assumption | (go_simp; done) | assumption | (simp [World.cell?]; done))
    have hb2 := Below.trans (b := w.alloc (.cells #[.int .i64 nv, .slice a n c, .slice ua un uc] 27)) (B := w.heap.size) (a := w) (by repeat (first | with_reducible assumption | with_reducible exact Below.refl _ _ | with_reducible refine below_drewN ?_ _ | with_reducible refine Below.al ?_ (by first | with_reducible exact Nat.le_refl _ | omega | (simp; done) | (simp; omega) | exact Nat.le_refl _) _ | with_reducible refine Below.setCell ?_ (by first | with_reducible exact Nat.le_refl _ | omega | (simp; done) | (simp; omega) | exact Nat.le_refl _) _ | assumption | exact Below.refl _ _ | refine below_drewN ?_ _ | refine Below.al ?_ (by first | with_reducible exact Nat.le_refl _ | omega | (simp; done) | (simp; omega) | exact Nat.le_refl _) _ | refine Below.setCell ?_ (by first | with_reducible exact Nat.le_refl _ | omega | (simp; done) | (simp; omega) | exact Nat.le_refl _) _)) (hb1.mono (by first | with_reducible exact Nat.le_refl _ | omega | (simp; done) | (simp; omega) | exact Nat.le_refl _))
    have HJ1 := hid (beInts HJ.out hb2 hh')
    have HB := hid hb2; clear hb1 hb2
    by_cases hl : (on : Int) = nv
    · have hbl : decide ((on : Int) = nv) = true := by simpa using hl
      have HE := hid (ordOK_set (os := os) HQ.out (by rw [HOL.out]; exact hl))
      have HH := hid hl; clear hl
      go_wp2_with fail
      refine (implIsSet oa on oc os nv _ HJ1.out (by have := HH.out; omega) (by unfold I64 at hnv; omega)).mono ?_
      rintro e w2 ⟨rfl, m2, rfl⟩
      go_wp2_with fail
      go_ret
      exact ⟨by rw [HE.out]; rfl, below_drewN HB.out _⟩
    · have HF := hid (ordOK_len (xs := xs) (us := us) (show ¬ (os.length : Int) = nv by rw [HOL.out]; exact hl))
      go_wp2_with fail
      go_ret
      exact ⟨by rw [HF.out]; rfl, HB.out⟩
/- The walk of the default order, both sides. -/
/-- the first k numbers -/
def idTo (k : Nat) : List Int := (List.range k).map fun (i : Nat) => (i : Int)
theorem idTo_len (k : Nat) : (idTo k).length = k := by simp [idTo]
theorem idTo_succ (k : Nat) : idTo (k + 1) = idTo k ++ [(k : Int)] := by simp [idTo, List.range_succ]
/-- what DefaultOrder returns -/
noncomputable def defF (nv : Int) (xs : List AtomD) (us : List Int) : List Int := if qOK nv xs us = true then idTo nv.toNat else []
theorem defF_no {nv : Int} {xs : List AtomD} {us : List Int} (h : qOK nv xs us = false) : defF nv xs us = [] := by simp [defF, h]
theorem defF_yes {m : Nat} {xs : List AtomD} {us : List Int} (h : qOK (m : Int) xs us = true) : defF m xs us = idTo m := by simp [defF, h]
set_option maxHeartbeats 1600000 in
theorem implDefOrd {fz : Bool} {lo hi : Nat} (nv : Int) (a : Option Addr) (n c : Nat) (xs : List AtomD) (ua : Option Addr) (un uc : Nat) (us : List Int) (w : World) (hI : QueryA fz lo hi w nv a n c xs ua un uc us) (hh : hi ≤ w.heap.size) :
    Calls Try.prog 35 #[queryV nv a n c ua un uc] w (GivesOwn w (defF nv xs us)) := by
  have HI := hid hI; clear hI
  obtain ⟨q, hq⟩ : ∃ q, qOK nv xs us = q := ⟨_, rfl⟩
  have HQ := hid hq; clear hq
  cases q with
  | false =>
    have HF := hid (defF_no HQ.out)
    go_enter Try.func35, Try.ntmps35
    go_wp2_with fail
    refine (implValidQ nv a n c xs ua un uc us _ (beQuery (B := w.heap.size) HI.out (by repeat (first | with_reducible assumption | with_reducible exact Below.refl _ _ | with_reducible refine below_drewN ?_ _ | with_reducible refine Below.al ?_ (by first | with_reducible exact Nat.le_refl _ | omega | (simp; done) | (simp; omega) | exact Nat.le_refl _) _ | with_reducible refine Below.setCell ?_ (by first | with_reducible exact Nat.le_refl _ | omega | (simp; done) | (simp; omega) | exact Nat.le_refl _) _ | assumption | exact Below.refl _ _ | refine below_drewN ?_ _ | refine Below.al ?_ (by first | with_reducible exact Nat.le_refl _ | omega | (simp; done) | (simp; omega) | exact Nat.le_refl _) _ | refine Below.setCell ?_ (by first | with_reducible exact Nat.le_refl _ | omega | (simp; done) | (simp; omega) | exact Nat.le_refl _) _)) hh) (by first | with_reducible exact Nat.le_refl _ | omega | (simp; done) | (simp; omega) | exact Nat.le_refl _)).mono ?_
    rintro e w1 ⟨rfl, hb1⟩
    rw [HQ.out]
    have HB := hid (Below.trans (b := w.alloc (.cells #[.int .i64 nv, .slice a n c, .slice ua un uc] 27)) (B := w.heap.size) (a := w) (by repeat (first | with_reducible assumption | with_reducible exact Below.refl _ _ | with_reducible refine below_drewN ?_ _ | with_reducible refine Below.al ?_ (by first | with_reducible exact Nat.le_refl _ | omega | (simp; done) | (simp; omega) | exact Nat.le_refl _) _ | with_reducible refine Below.setCell ?_ (by first | with_reducible exact Nat.le_refl _ | omega | (simp; done) | (simp; omega) | exact Nat.le_refl _) _ | assumption | exact Below.refl _ _ | refine below_drewN ?_ _ | refine Below.al ?_ (by first | with_reducible exact Nat.le_refl _ | omega | (simp; done) | (simp; omega) | exact Nat.le_refl _) _ | refine Below.setCell ?_ (by first | with_reducible exact Nat.le_refl _ | omega | (simp; done) | (simp; omega) | exact Nat.le_refl _) _)) (hb1.mono (by first | with_reducible exact Nat.le_refl _ | omega | (simp; done) | (simp; omega) | exact Nat.le_refl _))); clear hb1
    go_wp2_with fail
    go_ret
    rw [HF.out]
    exact ⟨_, _, _, rfl, own_nil _ _, HB.out⟩
  | true =>
    have hn := (qOK_out HQ.out).1.1
    obtain ⟨m, rfl⟩ := Int.eq_ofNat_of_zero_le (show 0 ≤ nv by omega)
    have hm5 : m ≤ 5 := by omega
    clear hn
    have HF := hid (defF_yes HQ.out)
    go_enter Try.func35, Try.ntmps35
    go_wp2_with fail
    refine (implValidQ m a n c xs ua un uc us _ (beQuery (B := w.heap.size) HI.out (by repeat (first | with_reducible assumption | with_reducible exact Below.refl _ _ | with_reducible refine below_drewN ?_ _ | with_reducible refine Below.al ?_ (by first | with_reducible exact Nat.le_refl _ | omega | (simp; done) | (simp; omega) | exact Nat.le_refl _) _ | with_reducible refine Below.setCell ?_ (by first | with_reducible exact Nat.le_refl _ | omega | (simp; done) | (simp; omega) | exact Nat.le_refl _) _ | assumption | exact Below.refl _ _ | refine below_drewN ?_ _ | refine Below.al ?_ (by first | with_reducible exact Nat.le_refl _ | omega | (simp; done) | (simp; omega) | exact Nat.le_refl _) _ | refine Below.setCell ?_ (by first | with_reducible exact Nat.le_refl _ | omega | (simp; done) | (simp; omega) | exact Nat.le_refl _) _)) hh) (by first | with_reducible exact Nat.le_refl _ | omega | (simp; done) | (simp; omega) | exact Nat.le_refl _)).mono ?_
    rintro e w1 ⟨rfl, hb1⟩
    rw [HQ.out]
    have c0 : w1.cell? ⟨w.heap.size, 0, none⟩ = some (.int .i64 m) := (by rw [(bcell hb1).1 _ _ (by first | omega | (simp; done) | (simp; omega))]; first | with_reducible assumption | (go_simp; done) | assumption | (simp [World.cell?]; done))
    have hz1 : w.heap.size < w1.heap.size := World.block_lt_of_cell? _ _ c0
    have HB := hid (Below.trans (b := w.alloc (.cells #[.int .i64 m, .slice a n c, .slice ua un uc] 27)) (B := w.heap.size) (a := w) (by repeat (first | with_reducible assumption | with_reducible exact Below.refl _ _ | with_reducible refine below_drewN ?_ _ | with_reducible refine Below.al ?_ (by first | with_reducible exact Nat.le_refl _ | omega | (simp; done) | (simp; omega) | exact Nat.le_refl _) _ | with_reducible refine Below.setCell ?_ (by first | with_reducible exact Nat.le_refl _ | omega | (simp; done) | (simp; omega) | exact Nat.le_refl _) _ | assumption | exact Below.refl _ _ | refine below_drewN ?_ _ | refine Below.al ?_ (by first | with_reducible exact Nat.le_refl _ | omega | (simp; done) | (simp; omega) | exact Nat.le_refl _) _ | refine Below.setCell ?_ (by first | with_reducible exact Nat.le_refl _ | omega | (simp; done) | (simp; omega) | exact Nat.le_refl _) _)) (hb1.mono (by first | with_reducible exact Nat.le_refl _ | omega | (simp; done) | (simp; omega) | exact Nat.le_refl _))); clear hb1
    go_wp2_with fail
    go_loopw [3, 4] (fun v i wr => ∃ (k : Nat) (ao : Option Addr) (m' co : Nat), i = .int .i64 k ∧ v = .slice ao m' co ∧ k ≤ m ∧ Own w1.heap.size wr ao m' co (idTo k) ∧ Below w1.heap.size w1 wr) (fun _ i _ => m - (intOf i).toNat)
    case atStart => exact ⟨0, _, 0, 0, rfl, rfl, by omega, own_nil _ _, Below.refl _ _⟩
    case round =>
      obtain ⟨k, ao, m', co, rfl, rfl, hk, hown, hbel⟩ := hrel
      have hm' : m' ≤ k := by have g1 := hown.len; rw [idTo_len] at g1; omega
      have hzw := hbel.size
      have k0 : wr.cell? ⟨w.heap.size, 0, none⟩ = some (.int .i64 m) := by rw [(bcell hbel).1 _ _ hz1]; exact c0
      have HI64 : Hid (I64 (k : Int)) := hid (by unfold I64; omega)
      have HO := hid hown; clear hown
      have HBL := hid hbel; clear hbel
      by_cases hlt : k < m
      · go_wp2_with (at_builtin; refine wpApp rfl (.tmp 14) (.tmp 16) rfl w1.heap.size ao m' co _ rfl (HO.out.alloc _) _ 1 1 _ rfl (one_ints _ _ _ HI64.out) (by omega) (by simp; omega) ?_)
        intro a1 c1' w5 ho2 hg2
        have hb2 : Below w1.heap.size w1 w5 := ho0' HO.out HBL.out (by omega) hg2
        have HO2 := hid ho2; clear ho2
        have HB2 := hid hb2; clear hb2 hg2
        go_wp2
        go_roundw
        case rel => exact ⟨k + 1, a1, m' + 1, c1', by go_num, rfl, by omega, by rw [idTo_succ]; exact HO2.out, HB2.out⟩
        case measure => simp [intOf]; omega
      · go_wp2_with fail
        go_ret
        obtain rfl : k = m := by omega
        rw [HF.out]
        exact ⟨_, _, _, rfl, HO.out.low (by omega), HB.out.trans (HBL.out.mono (by omega))⟩
end Go.Proofs.Ytalfldflnacpeaa
