/- The walk of the default order, both sides. -/
import Derived.Test.YtbjbgfeaiepejaaB4
namespace Go.Proofs.Ytbjbgfeaiepejaa
open Go.RowKit
/-- the first k numbers -/
def idTo (k : Nat) : List Int := (List.range k).map fun (i : Nat) => (i : Int)
theorem idTo_len (k : Nat) : (idTo k).length = k := by simp [idTo]
theorem idTo_succ (k : Nat) : idTo (k + 1) = idTo k ++ [(k : Int)] := by simp [idTo, List.range_succ]
/-- what DefaultOrder returns -/
noncomputable def defF (nv : Int) (xs : List AtomD) (us : List Int) : List Int := if qOK nv xs us = true then idTo nv.toNat else []
theorem defF_no {nv : Int} {xs : List AtomD} {us : List Int} (h : qOK nv xs us = false) : defF nv xs us = [] := by simp [defF, h]
theorem defF_yes {m : Nat} {xs : List AtomD} {us : List Int} (h : qOK (m : Int) xs us = true) : defF m xs us = idTo m := by simp [defF, h]
theorem defF_len (nv : Int) (xs : List AtomD) (us : List Int) : (defF nv xs us).length ≤ 5 := by
  unfold defF
  split
  · next h => have := (qOK_out h).1.1; rw [idTo_len]; omega
  · simp
set_option maxHeartbeats 1600000 in
theorem implDefOrd {fz : Bool} {lo hi : Nat} (nv : Int) (a : Option Addr) (n c : Nat) (xs : List AtomD) (ua : Option Addr) (un uc : Nat) (us : List Int) (w : World) (hI : QueryA fz lo hi w nv a n c xs ua un uc us) (hh : hi ≤ w.heap.size) :
    Calls Try.prog 27 #[queryV nv a n c ua un uc] w (GivesOwn w (defF nv xs us)) := by
  have HI := hid hI; clear hI
  obtain ⟨q, hq⟩ : ∃ q, qOK nv xs us = q := ⟨_, rfl⟩
  have HQ := hid hq; clear hq
  cases q with
  | false =>
    have HF := hid (defF_no HQ.out)
    go_enter Try.func27, Try.ntmps27
    go_wp2_with fail
    refine (implValidQ nv a n c xs ua un uc us _ (beQuery (B := w.heap.size) HI.out (by repeat (first | assumption | exact Below.refl _ _ | refine below_drewN ?_ _ | refine Below.al ?_ (by first | exact Nat.le_refl _ | omega | (simp; done) | (simp; omega)) _ | refine Below.setCell ?_ (by first | exact Nat.le_refl _ | omega | (simp; done) | (simp; omega)) _)) hh) (by first | exact Nat.le_refl _ | omega | (simp; done) | (simp; omega))).mono ?_
    rintro e w1 ⟨rfl, hb1⟩
    rw [HQ.out]
    have HB := hid (Below.trans (b := w.alloc (.cells #[.int .i64 nv, .slice a n c, .slice ua un uc] 42)) (B := w.heap.size) (a := w) (by repeat (first | assumption | exact Below.refl _ _ | refine below_drewN ?_ _ | refine Below.al ?_ (by first | exact Nat.le_refl _ | omega | (simp; done) | (simp; omega)) _ | refine Below.setCell ?_ (by first | exact Nat.le_refl _ | omega | (simp; done) | (simp; omega)) _)) (hb1.mono (by first | exact Nat.le_refl _ | omega | (simp; done) | (simp; omega)))); clear hb1
    go_wp2_with fail
    go_ret
    rw [HF.out]
    exact ⟨_, _, _, rfl, own_nil _ _, HB.out⟩
  | true =>
    have hn := (qOK_out HQ.out).1.1
    obtain ⟨m, rfl⟩ := Int.eq_ofNat_of_zero_le (show 0 ≤ nv by omega)
    have hm5 : m ≤ 5 := by omega
    clear hn
    have HF := hid (defF_yes HQ.out)
    go_enter Try.func27, Try.ntmps27
    go_wp2_with fail
    refine (implValidQ m a n c xs ua un uc us _ (beQuery (B := w.heap.size) HI.out (by repeat (first | assumption | exact Below.refl _ _ | refine below_drewN ?_ _ | refine Below.al ?_ (by first | exact Nat.le_refl _ | omega | (simp; done) | (simp; omega)) _ | refine Below.setCell ?_ (by first | exact Nat.le_refl _ | omega | (simp; done) | (simp; omega)) _)) hh) (by first | exact Nat.le_refl _ | omega | (simp; done) | (simp; omega))).mono ?_
    rintro e w1 ⟨rfl, hb1⟩
    rw [HQ.out]
    have c0 : w1.cell? ⟨w.heap.size, 0, none⟩ = some (.int .i64 m) := (by rw [(bcell hb1).1 _ _ (by first | (simp; done) | (simp; omega))]; first | (go_simp; done) | (simp [World.cell?]; done))
    have hz1 : w.heap.size < w1.heap.size := World.block_lt_of_cell? _ _ c0
    have HB := hid (Below.trans (b := w.alloc (.cells #[.int .i64 m, .slice a n c, .slice ua un uc] 42)) (B := w.heap.size) (a := w) (by repeat (first | assumption | exact Below.refl _ _ | refine below_drewN ?_ _ | refine Below.al ?_ (by first | exact Nat.le_refl _ | omega | (simp; done) | (simp; omega)) _ | refine Below.setCell ?_ (by first | exact Nat.le_refl _ | omega | (simp; done) | (simp; omega)) _)) (hb1.mono (by first | exact Nat.le_refl _ | omega | (simp; done) | (simp; omega)))); clear hb1
    go_wp2_with fail
    go_loopw [3, 4] (fun v i wr => ∃ (k : Nat) (ao : Option Addr) (m' co : Nat), i = .int .i64 k ∧ v = .slice ao m' co ∧ k ≤ m ∧ Own w1.heap.size wr ao m' co (idTo k) ∧ Below w1.heap.size w1 wr) (fun _ i _ => m - (intOf i).toNat)
    case atStart => exact ⟨0, _, 0, 0, rfl, rfl, by omega, own_nil _ _, Below.refl _ _⟩
    case round =>
      obtain ⟨k, ao, m', co, rfl, rfl, hk, hown, hbel⟩ := hrel
      have hm' : m' ≤ k := by have g1 := hown.len; rw [idTo_len] at g1; omega
      have hzw := hbel.size
      have k0 : wr.cell? ⟨w.heap.size, 0, none⟩ = some (.int .i64 m) := by rw [(bcell hbel).1 _ _ hz1]; exact c0
      have HI64 : Hid (I64 (k : Int)) := hid (by unfold I64; omega)
      have HO := hid hown; clear hown
      have HBL := hid hbel; clear hbel
      by_cases hlt : k < m
      · go_wp2_with (at_builtin; refine wpApp rfl (.tmp 14) (.tmp 16) rfl w1.heap.size ao m' co _ rfl (HO.out.alloc _) _ 1 1 _ rfl (one_ints _ _ _ HI64.out) (by omega) (by simp; omega) ?_)
        intro a1 c1' w5 ho2 hg2
        have hb2 : Below w1.heap.size w1 w5 := ho0' HO.out HBL.out (by omega) hg2
        have HO2 := hid ho2; clear ho2
        have HB2 := hid hb2; clear hb2 hg2
        go_wp2
        go_roundw
        case rel => exact ⟨k + 1, a1, m' + 1, c1', by go_num, rfl, by omega, by rw [idTo_succ]; exact HO2.out, HB2.out⟩
        case measure => simp [intOf]; omega
      · go_wp2_with fail
        go_ret
        obtain rfl : k = m := by omega
        rw [HF.out]
        exact ⟨_, _, _, rfl, HO.out.low (by omega), HB.out.trans (HBL.out.mono (by omega))⟩
set_option maxHeartbeats 3200000 in
theorem specDefOrd {fz : Bool} {lo hi : Nat} (nv : Int) (a : Option Addr) (n c : Nat) (xs : List AtomD) (ua : Option Addr) (un uc : Nat) (us : List Int) (w : World) (hI : QueryA fz lo hi w nv a n c xs ua un uc us) (hh : hi ≤ w.heap.size) :
    Calls Try.prog 26 #[queryV nv a n c ua un uc] w (GivesOwn w (defF nv xs us)) := by
  obtain ⟨W, hW⟩ : ∃ W, W = (w.alloc (.cells #[.int .i64 nv, .slice a n c, .slice ua un uc] 42)).alloc (.cells #[] 3) := ⟨_, rfl⟩
  have hBW : Below w.heap.size w W := by rw [hW]; exact (by repeat (first | assumption | exact Below.refl _ _ | refine below_drewN ?_ _ | refine Below.al ?_ (by first | exact Nat.le_refl _ | omega | (simp; done) | (simp; omega)) _ | refine Below.setCell ?_ (by first | exact Nat.le_refl _ | omega | (simp; done) | (simp; omega)) _))
  have c0 : W.cell? ⟨w.heap.size, 0, none⟩ = some (.int .i64 nv) := by rw [hW]; first | (go_simp; done) | (simp [World.cell?]; done)
  have c1 : W.cell? ⟨w.heap.size, 1, none⟩ = some (.slice a n c) := by rw [hW]; first | (go_simp; done) | (simp [World.cell?]; done)
  have c2 : W.cell? ⟨w.heap.size, 2, none⟩ = some (.slice ua un uc) := by rw [hW]; first | (go_simp; done) | (simp [World.cell?]; done)
  have hz : w.heap.size + 1 ≤ W.heap.size := by rw [hW]; simp
  have ho : Own (w.heap.size + 1) W (some ⟨w.heap.size + 1, 0, none⟩) 0 0 [] := own_empty2 _ _ _ (Nat.le_refl _) (by rw [hW]; exact al1a _ _ _)
  have hIW := beQuery hI hBW hh
  have HW := hid (And.intro hW (And.intro hBW (And.intro hI (And.intro hIW ho)))); clear hW hBW hI ho hIW
  obtain ⟨q, hq⟩ : ∃ q, qOK nv xs us = q := ⟨_, rfl⟩
  have HQ := hid hq; clear hq
  cases q with
  | false =>
    have HF := hid (defF_no HQ.out)
    by_cases hp : 0 < nv
    · go_enter Try.func26, Try.ntmps26
      go_upto_region 2 with fail
      rw [← HW.out.1]
      go_wp2_with fail
      go_loopw [3, 4] (fun v i wr => i = .int .i64 0 ∧ v = .slice (some ⟨w.heap.size + 1, 0, none⟩) 0 0 ∧ wr = W) (fun _ i _ => 1 - (intOf i).toNat)
      case atStart => exact ⟨rfl, rfl, rfl⟩
      case round =>
        obtain ⟨rfl, rfl, rfl⟩ := hrel
        go_wp2_with fail
        refine (specValidQ nv a n c xs ua un uc us _ HW.out.2.2.2.1 (by omega)).mono ?_
        rintro e w1 ⟨rfl, hb1⟩
        rw [HQ.out]
        have HB := hid hb1; clear hb1
        go_wp2_with fail
        go_ret
        exact ⟨_, _, _, rfl, by rw [HF.out]; exact (HW.out.2.2.2.2.keep (Keeps.of_below HB.out (Nat.le_refl _))).low (by omega), HW.out.2.1.trans (HB.out.mono (by omega))⟩
    · go_enter Try.func26, Try.ntmps26
      go_upto_region 2 with fail
      rw [← HW.out.1]
      go_wp2_with fail
      go_loopw [3, 4] (fun v i wr => i = .int .i64 0 ∧ v = .slice (some ⟨w.heap.size + 1, 0, none⟩) 0 0 ∧ wr = W) (fun _ i _ => 1 - (intOf i).toNat)
      case atStart => exact ⟨rfl, rfl, rfl⟩
      case round =>
        obtain ⟨rfl, rfl, rfl⟩ := hrel
        go_wp2_with fail
        go_ret
        exact ⟨_, _, _, rfl, by rw [HF.out]; exact HW.out.2.2.2.2.low (by omega), HW.out.2.1⟩
  | true =>
    have hn := (qOK_out HQ.out).1.1
    obtain ⟨m, rfl⟩ := Int.eq_ofNat_of_zero_le (show 0 ≤ nv by omega)
    have hm5 : m ≤ 5 := by omega
    clear hn
    have HF := hid (defF_yes HQ.out)
    go_enter Try.func26, Try.ntmps26
    go_upto_region 2 with fail
    rw [← HW.out.1]
    go_wp2_with fail
    go_loopw [3, 4] (fun v i wr => ∃ (k : Nat) (ao : Option Addr) (m' co : Nat), i = .int .i64 k ∧ v = .slice ao m' co ∧ k ≤ m ∧ Own (w.heap.size + 1) wr ao m' co (idTo k) ∧ Below (w.heap.size + 1) W wr) (fun _ i _ => m - (intOf i).toNat)
    case atStart => exact ⟨0, _, 0, 0, rfl, rfl, by omega, HW.out.2.2.2.2, Below.refl _ _⟩
    case round =>
      obtain ⟨k, ao, m', co, rfl, rfl, hk, hown, hbel⟩ := hrel
      have hm' : m' ≤ k := by have g1 := hown.len; rw [idTo_len] at g1; omega
      have hzw := hbel.size
      have hbw : Below w.heap.size w wr := HW.out.2.1.trans (hbel.mono (by omega))
      have k0 : wr.cell? ⟨w.heap.size, 0, none⟩ = some (.int .i64 m) := by rw [hbel.cell (p := ⟨w.heap.size, 0, none⟩) (by simp)]; exact c0
      have k1 : wr.cell? ⟨w.heap.size, 1, none⟩ = some (.slice a n c) := by rw [hbel.cell (p := ⟨w.heap.size, 1, none⟩) (by simp)]; exact c1
      have k2 : wr.cell? ⟨w.heap.size, 2, none⟩ = some (.slice ua un uc) := by rw [hbel.cell (p := ⟨w.heap.size, 2, none⟩) (by simp)]; exact c2
      have HI64 : Hid (I64 (k : Int)) := hid (by unfold I64; omega)
      have HIr := hid (beQuery HW.out.2.2.1 hbw hh)
      have HO := hid hown
      have HB := hid (And.intro hbel hbw)
      clear hown hbel hbw
      by_cases hlt : k < m
      · go_wp2_with fail
        refine (specValidQ m a n c xs ua un uc us _ HIr.out (by omega)).mono ?_
        rintro e w3 ⟨rfl, hb3⟩
        rw [HQ.out]
        have hz3 := hb3.size
        have HO3 := hid (HO.out.keep (Keeps.of_below hb3 (Nat.le_refl _)))
        have HB3 := hid (HB.out.1.trans (hb3.mono (by omega)))
        clear hb3
        go_wp2_with (at_builtin; refine wpApp rfl (.tmp 16) (.tmp 18) rfl (w.heap.size + 1) ao m' co _ rfl (HO3.out.alloc _) _ 1 1 _ rfl (one_ints _ _ _ HI64.out) (by omega) (by simp; omega) ?_)
        intro a1 c1' w5 ho2 hg2
        have hb2 : Below (w.heap.size + 1) W w5 := ho0' HO3.out HB3.out (by omega) hg2
        have HO2 := hid ho2; clear ho2
        have HB2 := hid hb2; clear hb2 hg2
        go_wp2
        go_roundw
        case rel => exact ⟨k + 1, a1, m' + 1, c1', by go_num, rfl, by omega, by rw [idTo_succ]; exact HO2.out, HB2.out⟩
        case measure => simp [intOf]; omega
      · go_wp2_with fail
        go_ret
        obtain rfl : k = m := by omega
        rw [HF.out]
        exact ⟨_, _, _, rfl, HO.out.low (by omega), HB.out.2⟩
end Go.Proofs.Ytbjbgfeaiepejaa
