/- The walk of the law FnExactProductOfPowers: it returns true and changes nothing that was there. Written by lawwalk.py. -/
import Derived.Test.YtnipfgmldhepkaaN7
namespace Go.Proofs.Ytnipfgmldhepkaa
set_option linter.unusedSimpArgs false
set_option linter.unusedVariables false
open Go.RowKit
set_option maxHeartbeats 4000000 in
theorem law_FnExactProductOfPowers (a0 : Option Addr) (n0 : Nat) (c0 : Nat) (xs0 : List Int) (a1 : Option Addr) (n1 : Nat) (c1 : Nat) (xs1 : List Int) (w : World) (hD0 : IntsA false (0) w.heap.size w a0 n0 c0 xs0) (hD1 : IntsA false (0) w.heap.size w a1 n1 c1 xs1) :
    Calls Try.prog 3 #[.slice a0 n0 c0, .slice a1 n1 c1] w (Leaves w (.bool true)) := by
  have DA0 := hid hD0; clear hD0
  have DA1 := hid hD1; clear hD1
  have hl0 := DA0.out.len; have HL0 := hid hl0; clear hl0
  have hl1 := DA1.out.len; have HL1 := hid hl1; clear hl1
  by_cases hn0 : n0 ≤ 1048576
  · have HS0 : Hid (xs0.length ≤ 1048576) := hid (by rw [HL0.out]; exact hn0)
    by_cases hn1 : n1 ≤ 1048576
    · have HS1 : Hid (xs1.length ≤ 1048576) := hid (by rw [HL1.out]; exact hn1)
      go_enter Try.func3, Try.ntmps3
      go_wp2_with fail
      refine (toK_Ints a0 n0 c0 xs0 _ (beInts (B := w.heap.size) DA0.out (by repeat (first | with_reducible assumption | with_reducible exact Below.refl _ _ | with_reducible refine below_drewN ?_ _ | with_reducible refine Below.al ?_ (by first | with_reducible exact Nat.le_refl _ | omega | (simp; done) | (simp; omega) | exact Nat.le_refl _) _ | with_reducible refine Below.setCell ?_ (by first | with_reducible exact Nat.le_refl _ | omega | (simp; done) | (simp; omega) | exact Nat.le_refl _) _ | assumption | exact Below.refl _ _ | refine below_drewN ?_ _ | refine Below.al ?_ (by first | with_reducible exact Nat.le_refl _ | omega | (simp; done) | (simp; omega) | exact Nat.le_refl _) _ | refine Below.setCell ?_ (by first | with_reducible exact Nat.le_refl _ | omega | (simp; done) | (simp; omega) | exact Nat.le_refl _) _)) (by first | with_reducible exact Nat.le_refl _ | omega | (simp; done) | (simp; omega) | exact Nat.le_refl _)) (by first | with_reducible exact Nat.le_refl _ | omega | (simp; done) | (simp; omega) | exact Nat.le_refl _) HS0.out).mono ?_
      rintro e u1 ⟨ap0, np0, cp0, rfl, ho, hb⟩
      have hc : Below w.heap.size w u1 := Below.trans (by repeat (first | with_reducible assumption | with_reducible exact Below.refl _ _ | with_reducible refine below_drewN ?_ _ | with_reducible refine Below.al ?_ (by first | with_reducible exact Nat.le_refl _ | omega | (simp; done) | (simp; omega) | exact Nat.le_refl _) _ | with_reducible refine Below.setCell ?_ (by first | with_reducible exact Nat.le_refl _ | omega | (simp; done) | (simp; omega) | exact Nat.le_refl _) _ | assumption | exact Below.refl _ _ | refine below_drewN ?_ _ | refine Below.al ?_ (by first | with_reducible exact Nat.le_refl _ | omega | (simp; done) | (simp; omega) | exact Nat.le_refl _) _ | refine Below.setCell ?_ (by first | with_reducible exact Nat.le_refl _ | omega | (simp; done) | (simp; omega) | exact Nat.le_refl _) _)) (hb.mono (by first | with_reducible exact Nat.le_refl _ | omega | (simp; done) | (simp; omega) | exact Nat.le_refl _))
      have z1 : w.heap.size ≤ u1.heap.size := hc.size
      replace DA0 : Hid (IntsA false (0) w.heap.size u1 a0 n0 c0 xs0) := hid (beInts DA0.out hc (by omega))
      replace DA1 : Hid (IntsA false (0) w.heap.size u1 a1 n1 c1 xs1) := hid (beInts DA1.out hc (by omega))
      have HW := hid hc
      have Dp0 : Hid (IntsA true (w.heap.size) u1.heap.size u1 ap0 np0 cp0 xs0) := hid (wdInts ho (by first | with_reducible exact Nat.le_refl _ | omega | (simp; done) | (simp; omega) | exact Nat.le_refl _))
      clear ho hb hc
      go_wp2_with fail
      refine (toK_Ints a1 n1 c1 xs1 _ (beInts (B := u1.heap.size) DA1.out (by repeat (first | with_reducible assumption | with_reducible exact Below.refl _ _ | with_reducible refine below_drewN ?_ _ | with_reducible refine Below.al ?_ (by first | with_reducible exact Nat.le_refl _ | omega | (simp; done) | (simp; omega) | exact Nat.le_refl _) _ | with_reducible refine Below.setCell ?_ (by first | with_reducible exact Nat.le_refl _ | omega | (simp; done) | (simp; omega) | exact Nat.le_refl _) _ | assumption | exact Below.refl _ _ | refine below_drewN ?_ _ | refine Below.al ?_ (by first | with_reducible exact Nat.le_refl _ | omega | (simp; done) | (simp; omega) | exact Nat.le_refl _) _ | refine Below.setCell ?_ (by first | with_reducible exact Nat.le_refl _ | omega | (simp; done) | (simp; omega) | exact Nat.le_refl _) _)) (by first | with_reducible exact Nat.le_refl _ | omega | (simp; done) | (simp; omega) | exact Nat.le_refl _)) (by first | with_reducible exact Nat.le_refl _ | omega | (simp; done) | (simp; omega) | exact Nat.le_refl _) HS1.out).mono ?_
      rintro e u2 ⟨ap1, np1, cp1, rfl, ho, hb⟩
      have hc : Below u1.heap.size u1 u2 := Below.trans (by repeat (first | with_reducible assumption | with_reducible exact Below.refl _ _ | with_reducible refine below_drewN ?_ _ | with_reducible refine Below.al ?_ (by first | with_reducible exact Nat.le_refl _ | omega | (simp; done) | (simp; omega) | exact Nat.le_refl _) _ | with_reducible refine Below.setCell ?_ (by first | with_reducible exact Nat.le_refl _ | omega | (simp; done) | (simp; omega) | exact Nat.le_refl _) _ | assumption | exact Below.refl _ _ | refine below_drewN ?_ _ | refine Below.al ?_ (by first | with_reducible exact Nat.le_refl _ | omega | (simp; done) | (simp; omega) | exact Nat.le_refl _) _ | refine Below.setCell ?_ (by first | with_reducible exact Nat.le_refl _ | omega | (simp; done) | (simp; omega) | exact Nat.le_refl _) _)) (hb.mono (by first | with_reducible exact Nat.le_refl _ | omega | (simp; done) | (simp; omega) | exact Nat.le_refl _))
      have z2 : u1.heap.size ≤ u2.heap.size := hc.size
      replace DA0 : Hid (IntsA false (0) w.heap.size u2 a0 n0 c0 xs0) := hid (beInts DA0.out hc (by omega))
      replace DA1 : Hid (IntsA false (0) w.heap.size u2 a1 n1 c1 xs1) := hid (beInts DA1.out hc (by omega))
      replace Dp0 : Hid (IntsA true (w.heap.size) u1.heap.size u2 ap0 np0 cp0 xs0) := hid (beInts Dp0.out hc (by omega))
      replace HW : Hid (Below w.heap.size w u2) := hid (Below.calm HW.out hc)
      have Dp1 : Hid (IntsA true (u1.heap.size) u2.heap.size u2 ap1 np1 cp1 xs1) := hid (wdInts ho (by first | with_reducible exact Nat.le_refl _ | omega | (simp; done) | (simp; omega) | exact Nat.le_refl _))
      clear ho hb hc
      obtain ⟨dxs, hdxs⟩ : ∃ x : List Int, prodF xs0 xs1 = x := ⟨_, rfl⟩
      have HDxs := hid hdxs; clear hdxs
      obtain ⟨rb, hrb⟩ : ∃ x : Bool, prodOK xs0 xs1 = x := ⟨_, rfl⟩
      have hneb : ((rb : Bool) != rb) = false := by simp
      have HRB := hid hrb; clear hrb
      go_wp2_with fail
      refine (specProd ap0 np0 cp0 xs0 ap1 np1 cp1 xs1 _ (beInts (B := u2.heap.size) Dp0.out (by repeat (first | with_reducible assumption | with_reducible exact Below.refl _ _ | with_reducible refine below_drewN ?_ _ | with_reducible refine Below.al ?_ (by first | with_reducible exact Nat.le_refl _ | omega | (simp; done) | (simp; omega) | exact Nat.le_refl _) _ | with_reducible refine Below.setCell ?_ (by first | with_reducible exact Nat.le_refl _ | omega | (simp; done) | (simp; omega) | exact Nat.le_refl _) _ | assumption | exact Below.refl _ _ | refine below_drewN ?_ _ | refine Below.al ?_ (by first | with_reducible exact Nat.le_refl _ | omega | (simp; done) | (simp; omega) | exact Nat.le_refl _) _ | refine Below.setCell ?_ (by first | with_reducible exact Nat.le_refl _ | omega | (simp; done) | (simp; omega) | exact Nat.le_refl _) _)) (by first | with_reducible exact Nat.le_refl _ | omega | (simp; done) | (simp; omega) | exact Nat.le_refl _)) (by first | with_reducible exact Nat.le_refl _ | omega | (simp; done) | (simp; omega) | exact Nat.le_refl _) (beInts (B := u2.heap.size) Dp1.out (by repeat (first | with_reducible assumption | with_reducible exact Below.refl _ _ | with_reducible refine below_drewN ?_ _ | with_reducible refine Below.al ?_ (by first | with_reducible exact Nat.le_refl _ | omega | (simp; done) | (simp; omega) | exact Nat.le_refl _) _ | with_reducible refine Below.setCell ?_ (by first | with_reducible exact Nat.le_refl _ | omega | (simp; done) | (simp; omega) | exact Nat.le_refl _) _ | assumption | exact Below.refl _ _ | refine below_drewN ?_ _ | refine Below.al ?_ (by first | with_reducible exact Nat.le_refl _ | omega | (simp; done) | (simp; omega) | exact Nat.le_refl _) _ | refine Below.setCell ?_ (by first | with_reducible exact Nat.le_refl _ | omega | (simp; done) | (simp; omega) | exact Nat.le_refl _) _)) (by first | with_reducible exact Nat.le_refl _ | omega | (simp; done) | (simp; omega) | exact Nat.le_refl _)) (by first | with_reducible exact Nat.le_refl _ | omega | (simp; done) | (simp; omega) | exact Nat.le_refl _)).mono ?_
      rintro e u3 ⟨aW, nW, cW, rfl, ho, hb⟩
      rw [HDxs.out] at ho; rw [HRB.out]
      have hc : Below u2.heap.size u2 u3 := Below.trans (by repeat (first | with_reducible assumption | with_reducible exact Below.refl _ _ | with_reducible refine below_drewN ?_ _ | with_reducible refine Below.al ?_ (by first | with_reducible exact Nat.le_refl _ | omega | (simp; done) | (simp; omega) | exact Nat.le_refl _) _ | with_reducible refine Below.setCell ?_ (by first | with_reducible exact Nat.le_refl _ | omega | (simp; done) | (simp; omega) | exact Nat.le_refl _) _ | assumption | exact Below.refl _ _ | refine below_drewN ?_ _ | refine Below.al ?_ (by first | with_reducible exact Nat.le_refl _ | omega | (simp; done) | (simp; omega) | exact Nat.le_refl _) _ | refine Below.setCell ?_ (by first | with_reducible exact Nat.le_refl _ | omega | (simp; done) | (simp; omega) | exact Nat.le_refl _) _)) (hb.mono (by first | with_reducible exact Nat.le_refl _ | omega | (simp; done) | (simp; omega) | exact Nat.le_refl _))
      have z3 : u2.heap.size ≤ u3.heap.size := hc.size
      replace DA0 : Hid (IntsA false (0) w.heap.size u3 a0 n0 c0 xs0) := hid (beInts DA0.out hc (by omega))
      replace DA1 : Hid (IntsA false (0) w.heap.size u3 a1 n1 c1 xs1) := hid (beInts DA1.out hc (by omega))
      replace Dp0 : Hid (IntsA true (w.heap.size) u1.heap.size u3 ap0 np0 cp0 xs0) := hid (beInts Dp0.out hc (by omega))
      replace Dp1 : Hid (IntsA true (u1.heap.size) u2.heap.size u3 ap1 np1 cp1 xs1) := hid (beInts Dp1.out hc (by omega))
      replace HW : Hid (Below w.heap.size w u3) := hid (Below.calm HW.out hc)
      have DW : Hid (IntsA true (u2.heap.size) u3.heap.size u3 aW nW cW dxs) := hid (wdInts ho (by first | with_reducible exact Nat.le_refl _ | omega | (simp; done) | (simp; omega) | exact Nat.le_refl _))
      clear ho hb hc
      go_wp2_with fail
      refine (toK_Ints a0 n0 c0 xs0 _ (beInts (B := u3.heap.size) DA0.out (by repeat (first | with_reducible assumption | with_reducible exact Below.refl _ _ | with_reducible refine below_drewN ?_ _ | with_reducible refine Below.al ?_ (by first | with_reducible exact Nat.le_refl _ | omega | (simp; done) | (simp; omega) | exact Nat.le_refl _) _ | with_reducible refine Below.setCell ?_ (by first | with_reducible exact Nat.le_refl _ | omega | (simp; done) | (simp; omega) | exact Nat.le_refl _) _ | assumption | exact Below.refl _ _ | refine below_drewN ?_ _ | refine Below.al ?_ (by first | with_reducible exact Nat.le_refl _ | omega | (simp; done) | (simp; omega) | exact Nat.le_refl _) _ | refine Below.setCell ?_ (by first | with_reducible exact Nat.le_refl _ | omega | (simp; done) | (simp; omega) | exact Nat.le_refl _) _)) (by first | with_reducible exact Nat.le_refl _ | omega | (simp; done) | (simp; omega) | exact Nat.le_refl _)) (by first | with_reducible exact Nat.le_refl _ | omega | (simp; done) | (simp; omega) | exact Nat.le_refl _) HS0.out).mono ?_
      rintro e u4 ⟨ax0, nx0, cx0, rfl, ho, hb⟩
      have hc : Below u3.heap.size u3 u4 := Below.trans (by repeat (first | with_reducible assumption | with_reducible exact Below.refl _ _ | with_reducible refine below_drewN ?_ _ | with_reducible refine Below.al ?_ (by first | with_reducible exact Nat.le_refl _ | omega | (simp; done) | (simp; omega) | exact Nat.le_refl _) _ | with_reducible refine Below.setCell ?_ (by first | with_reducible exact Nat.le_refl _ | omega | (simp; done) | (simp; omega) | exact Nat.le_refl _) _ | assumption | exact Below.refl _ _ | refine below_drewN ?_ _ | refine Below.al ?_ (by first | with_reducible exact Nat.le_refl _ | omega | (simp; done) | (simp; omega) | exact Nat.le_refl _) _ | refine Below.setCell ?_ (by first | with_reducible exact Nat.le_refl _ | omega | (simp; done) | (simp; omega) | exact Nat.le_refl _) _)) (hb.mono (by first | with_reducible exact Nat.le_refl _ | omega | (simp; done) | (simp; omega) | exact Nat.le_refl _))
      have z4 : u3.heap.size ≤ u4.heap.size := hc.size
      have B0c0 : u4.cell? ⟨u3.heap.size, 0, none⟩ = some (.slice aW nW cW) := (by rw [(bcell hb).1 _ _ (by first | omega | (simp; done) | (simp; omega))]; first | with_reducible assumption | (go_simp; done) | assumption | (simp [World.cell?]; done))
      have B0p : u3.heap.size < u4.heap.size := World.block_lt_of_cell? _ _ B0c0
      have B0s : u3.heap.size < u4.heap.size := B0p
      replace DA0 : Hid (IntsA false (0) w.heap.size u4 a0 n0 c0 xs0) := hid (beInts DA0.out hc (by omega))
      replace DA1 : Hid (IntsA false (0) w.heap.size u4 a1 n1 c1 xs1) := hid (beInts DA1.out hc (by omega))
      replace DW : Hid (IntsA true (u2.heap.size) u3.heap.size u4 aW nW cW dxs) := hid (beInts DW.out hc (by omega))
      replace HW : Hid (Below w.heap.size w u4) := hid (Below.calm HW.out hc)
      have Dx0 : Hid (IntsA true (u3.heap.size + 1) u4.heap.size u4 ax0 nx0 cx0 xs0) := hid (wdInts ho (by first | with_reducible exact Nat.le_refl _ | omega | (simp; done) | (simp; omega) | exact Nat.le_refl _))
      clear ho hb hc
      go_wp2_with fail
      refine (toK_Ints a1 n1 c1 xs1 _ (beInts (B := u4.heap.size) DA1.out (by repeat (first | with_reducible assumption | with_reducible exact Below.refl _ _ | with_reducible refine below_drewN ?_ _ | with_reducible refine Below.al ?_ (by first | with_reducible exact Nat.le_refl _ | omega | (simp; done) | (simp; omega) | exact Nat.le_refl _) _ | with_reducible refine Below.setCell ?_ (by first | with_reducible exact Nat.le_refl _ | omega | (simp; done) | (simp; omega) | exact Nat.le_refl _) _ | assumption | exact Below.refl _ _ | refine below_drewN ?_ _ | refine Below.al ?_ (by first | with_reducible exact Nat.le_refl _ | omega | (simp; done) | (simp; omega) | exact Nat.le_refl _) _ | refine Below.setCell ?_ (by first | with_reducible exact Nat.le_refl _ | omega | (simp; done) | (simp; omega) | exact Nat.le_refl _) _)) (by first | with_reducible exact Nat.le_refl _ | omega | (simp; done) | (simp; omega) | exact Nat.le_refl _)) (by first | with_reducible exact Nat.le_refl _ | omega | (simp; done) | (simp; omega) | exact Nat.le_refl _) HS1.out).mono ?_
      rintro e u5 ⟨ax1, nx1, cx1, rfl, ho, hb⟩
      have hc : Below u4.heap.size u4 u5 := Below.trans (by repeat (first | with_reducible assumption | with_reducible exact Below.refl _ _ | with_reducible refine below_drewN ?_ _ | with_reducible refine Below.al ?_ (by first | with_reducible exact Nat.le_refl _ | omega | (simp; done) | (simp; omega) | exact Nat.le_refl _) _ | with_reducible refine Below.setCell ?_ (by first | with_reducible exact Nat.le_refl _ | omega | (simp; done) | (simp; omega) | exact Nat.le_refl _) _ | assumption | exact Below.refl _ _ | refine below_drewN ?_ _ | refine Below.al ?_ (by first | with_reducible exact Nat.le_refl _ | omega | (simp; done) | (simp; omega) | exact Nat.le_refl _) _ | refine Below.setCell ?_ (by first | with_reducible exact Nat.le_refl _ | omega | (simp; done) | (simp; omega) | exact Nat.le_refl _) _)) (hb.mono (by first | with_reducible exact Nat.le_refl _ | omega | (simp; done) | (simp; omega) | exact Nat.le_refl _))
      have z5 : u4.heap.size ≤ u5.heap.size := hc.size
      replace B0c0 : u5.cell? ⟨u3.heap.size, 0, none⟩ = some (.slice aW nW cW) := (by rw [(bcell hc).1 _ _ B0s]; exact B0c0)
      replace B0s : u3.heap.size < u5.heap.size := (by omega)
      replace DA0 : Hid (IntsA false (0) w.heap.size u5 a0 n0 c0 xs0) := hid (beInts DA0.out hc (by omega))
      replace DA1 : Hid (IntsA false (0) w.heap.size u5 a1 n1 c1 xs1) := hid (beInts DA1.out hc (by omega))
      replace DW : Hid (IntsA true (u2.heap.size) u3.heap.size u5 aW nW cW dxs) := hid (beInts DW.out hc (by omega))
      replace Dx0 : Hid (IntsA true (u3.heap.size + 1) u4.heap.size u5 ax0 nx0 cx0 xs0) := hid (beInts Dx0.out hc (by omega))
      replace HW : Hid (Below w.heap.size w u5) := hid (Below.calm HW.out hc)
      have Dx1 : Hid (IntsA true (u4.heap.size) u5.heap.size u5 ax1 nx1 cx1 xs1) := hid (wdInts ho (by first | with_reducible exact Nat.le_refl _ | omega | (simp; done) | (simp; omega) | exact Nat.le_refl _))
      clear ho hb hc
      go_wp2_with fail
      refine (implProd ax0 nx0 cx0 xs0 ax1 nx1 cx1 xs1 _ (beInts (B := u5.heap.size) Dx0.out (by repeat (first | with_reducible assumption | with_reducible exact Below.refl _ _ | with_reducible refine below_drewN ?_ _ | with_reducible refine Below.al ?_ (by first | with_reducible exact Nat.le_refl _ | omega | (simp; done) | (simp; omega) | exact Nat.le_refl _) _ | with_reducible refine Below.setCell ?_ (by first | with_reducible exact Nat.le_refl _ | omega | (simp; done) | (simp; omega) | exact Nat.le_refl _) _ | assumption | exact Below.refl _ _ | refine below_drewN ?_ _ | refine Below.al ?_ (by first | with_reducible exact Nat.le_refl _ | omega | (simp; done) | (simp; omega) | exact Nat.le_refl _) _ | refine Below.setCell ?_ (by first | with_reducible exact Nat.le_refl _ | omega | (simp; done) | (simp; omega) | exact Nat.le_refl _) _)) (by first | with_reducible exact Nat.le_refl _ | omega | (simp; done) | (simp; omega) | exact Nat.le_refl _)) (by first | with_reducible exact Nat.le_refl _ | omega | (simp; done) | (simp; omega) | exact Nat.le_refl _) (beInts (B := u5.heap.size) Dx1.out (by repeat (first | with_reducible assumption | with_reducible exact Below.refl _ _ | with_reducible refine below_drewN ?_ _ | with_reducible refine Below.al ?_ (by first | with_reducible exact Nat.le_refl _ | omega | (simp; done) | (simp; omega) | exact Nat.le_refl _) _ | with_reducible refine Below.setCell ?_ (by first | with_reducible exact Nat.le_refl _ | omega | (simp; done) | (simp; omega) | exact Nat.le_refl _) _ | assumption | exact Below.refl _ _ | refine below_drewN ?_ _ | refine Below.al ?_ (by first | with_reducible exact Nat.le_refl _ | omega | (simp; done) | (simp; omega) | exact Nat.le_refl _) _ | refine Below.setCell ?_ (by first | with_reducible exact Nat.le_refl _ | omega | (simp; done) | (simp; omega) | exact Nat.le_refl _) _)) (by first | with_reducible exact Nat.le_refl _ | omega | (simp; done) | (simp; omega) | exact Nat.le_refl _)) (by first | with_reducible exact Nat.le_refl _ | omega | (simp; done) | (simp; omega) | exact Nat.le_refl _)).mono ?_
      rintro e u6 ⟨aG, nG, cG, rfl, ho, hb⟩
      rw [HDxs.out] at ho; rw [HRB.out]
      have hc : Below u5.heap.size u5 u6 := Below.trans (by repeat (first | with_reducible assumption | with_reducible exact Below.refl _ _ | with_reducible refine below_drewN ?_ _ | with_reducible refine Below.al ?_ (by first | with_reducible exact Nat.le_refl _ | omega | (simp; done) | (simp; omega) | exact Nat.le_refl _) _ | with_reducible refine Below.setCell ?_ (by first | with_reducible exact Nat.le_refl _ | omega | (simp; done) | (simp; omega) | exact Nat.le_refl _) _ | assumption | exact Below.refl _ _ | refine below_drewN ?_ _ | refine Below.al ?_ (by first | with_reducible exact Nat.le_refl _ | omega | (simp; done) | (simp; omega) | exact Nat.le_refl _) _ | refine Below.setCell ?_ (by first | with_reducible exact Nat.le_refl _ | omega | (simp; done) | (simp; omega) | exact Nat.le_refl _) _)) (hb.mono (by first | with_reducible exact Nat.le_refl _ | omega | (simp; done) | (simp; omega) | exact Nat.le_refl _))
      have z6 : u5.heap.size ≤ u6.heap.size := hc.size
      replace B0c0 : u6.cell? ⟨u3.heap.size, 0, none⟩ = some (.slice aW nW cW) := (by rw [(bcell hc).1 _ _ B0s]; exact B0c0)
      replace B0s : u3.heap.size < u6.heap.size := (by omega)
      replace DA0 : Hid (IntsA false (0) w.heap.size u6 a0 n0 c0 xs0) := hid (beInts DA0.out hc (by omega))
      replace DA1 : Hid (IntsA false (0) w.heap.size u6 a1 n1 c1 xs1) := hid (beInts DA1.out hc (by omega))
      replace DW : Hid (IntsA true (u2.heap.size) u3.heap.size u6 aW nW cW dxs) := hid (beInts DW.out hc (by omega))
      replace Dx0 : Hid (IntsA true (u3.heap.size + 1) u4.heap.size u6 ax0 nx0 cx0 xs0) := hid (beInts Dx0.out hc (by omega))
      replace Dx1 : Hid (IntsA true (u4.heap.size) u5.heap.size u6 ax1 nx1 cx1 xs1) := hid (beInts Dx1.out hc (by omega))
      replace HW : Hid (Below w.heap.size w u6) := hid (Below.calm HW.out hc)
      have DG : Hid (IntsA true (u5.heap.size) u6.heap.size u6 aG nG cG dxs) := hid (wdInts ho (by first | with_reducible exact Nat.le_refl _ | omega | (simp; done) | (simp; omega) | exact Nat.le_refl _))
      clear ho hb hc
      go_wp2_with fail
      refine (eqK_Big aG aW nG cG nW cW dxs _ ((beInts (B := u6.heap.size) DG.out (by repeat (first | with_reducible assumption | with_reducible exact Below.refl _ _ | with_reducible refine below_drewN ?_ _ | with_reducible refine Below.al ?_ (by first | with_reducible exact Nat.le_refl _ | omega | (simp; done) | (simp; omega) | exact Nat.le_refl _) _ | with_reducible refine Below.setCell ?_ (by first | with_reducible exact Nat.le_refl _ | omega | (simp; done) | (simp; omega) | exact Nat.le_refl _) _ | assumption | exact Below.refl _ _ | refine below_drewN ?_ _ | refine Below.al ?_ (by first | with_reducible exact Nat.le_refl _ | omega | (simp; done) | (simp; omega) | exact Nat.le_refl _) _ | refine Below.setCell ?_ (by first | with_reducible exact Nat.le_refl _ | omega | (simp; done) | (simp; omega) | exact Nat.le_refl _) _)) (by first | with_reducible exact Nat.le_refl _ | omega | (simp; done) | (simp; omega) | exact Nat.le_refl _))) (by first | with_reducible exact Nat.le_refl _ | omega | (simp; done) | (simp; omega) | exact Nat.le_refl _) (beInts (B := u6.heap.size) DW.out (by repeat (first | with_reducible assumption | with_reducible exact Below.refl _ _ | with_reducible refine below_drewN ?_ _ | with_reducible refine Below.al ?_ (by first | with_reducible exact Nat.le_refl _ | omega | (simp; done) | (simp; omega) | exact Nat.le_refl _) _ | with_reducible refine Below.setCell ?_ (by first | with_reducible exact Nat.le_refl _ | omega | (simp; done) | (simp; omega) | exact Nat.le_refl _) _ | assumption | exact Below.refl _ _ | refine below_drewN ?_ _ | refine Below.al ?_ (by first | with_reducible exact Nat.le_refl _ | omega | (simp; done) | (simp; omega) | exact Nat.le_refl _) _ | refine Below.setCell ?_ (by first | with_reducible exact Nat.le_refl _ | omega | (simp; done) | (simp; omega) | exact Nat.le_refl _) _)) (by first | with_reducible exact Nat.le_refl _ | omega | (simp; done) | (simp; omega) | exact Nat.le_refl _)) (by first | with_reducible exact Nat.le_refl _ | omega | (simp; done) | (simp; omega) | exact Nat.le_refl _)).mono ?_
      rintro e u7 ⟨rfl, hb⟩
      have hc : Below u6.heap.size u6 u7 := Below.trans (by repeat (first | with_reducible assumption | with_reducible exact Below.refl _ _ | with_reducible refine below_drewN ?_ _ | with_reducible refine Below.al ?_ (by first | with_reducible exact Nat.le_refl _ | omega | (simp; done) | (simp; omega) | exact Nat.le_refl _) _ | with_reducible refine Below.setCell ?_ (by first | with_reducible exact Nat.le_refl _ | omega | (simp; done) | (simp; omega) | exact Nat.le_refl _) _ | assumption | exact Below.refl _ _ | refine below_drewN ?_ _ | refine Below.al ?_ (by first | with_reducible exact Nat.le_refl _ | omega | (simp; done) | (simp; omega) | exact Nat.le_refl _) _ | refine Below.setCell ?_ (by first | with_reducible exact Nat.le_refl _ | omega | (simp; done) | (simp; omega) | exact Nat.le_refl _) _)) (hb.mono (by first | with_reducible exact Nat.le_refl _ | omega | (simp; done) | (simp; omega) | exact Nat.le_refl _))
      have z7 : u6.heap.size ≤ u7.heap.size := hc.size
      replace B0c0 : u7.cell? ⟨u3.heap.size, 0, none⟩ = some (.slice aW nW cW) := (by rw [(bcell hc).1 _ _ B0s]; exact B0c0)
      replace B0s : u3.heap.size < u7.heap.size := (by omega)
      have B1c0 : u7.cell? ⟨u6.heap.size, 0, none⟩ = some (.slice aG nG cG) := (by rw [(bcell hb).1 _ _ (by first | omega | (simp; done) | (simp; omega))]; first | with_reducible assumption | (go_simp; done) | assumption | (simp [World.cell?]; done))
      have B1p : u6.heap.size < u7.heap.size := World.block_lt_of_cell? _ _ B1c0
      have B1s : u6.heap.size < u7.heap.size := B1p
      replace DA0 : Hid (IntsA false (0) w.heap.size u7 a0 n0 c0 xs0) := hid (beInts DA0.out hc (by omega))
      replace DA1 : Hid (IntsA false (0) w.heap.size u7 a1 n1 c1 xs1) := hid (beInts DA1.out hc (by omega))
      replace DW : Hid (IntsA true (u2.heap.size) u3.heap.size u7 aW nW cW dxs) := hid (beInts DW.out hc (by omega))
      replace Dx0 : Hid (IntsA true (u3.heap.size + 1) u4.heap.size u7 ax0 nx0 cx0 xs0) := hid (beInts Dx0.out hc (by omega))
      replace Dx1 : Hid (IntsA true (u4.heap.size) u5.heap.size u7 ax1 nx1 cx1 xs1) := hid (beInts Dx1.out hc (by omega))
      replace DG : Hid (IntsA true (u5.heap.size) u6.heap.size u7 aG nG cG dxs) := hid (beInts DG.out hc (by omega))
      replace HW : Hid (Below w.heap.size w u7) := hid (Below.calm HW.out hc)
      clear hb hc
      go_wp2_with fail
      refine (toK_Ints a0 n0 c0 xs0 _ (beInts (B := u7.heap.size) DA0.out (by repeat (first | with_reducible assumption | with_reducible exact Below.refl _ _ | with_reducible refine below_drewN ?_ _ | with_reducible refine Below.al ?_ (by first | with_reducible exact Nat.le_refl _ | omega | (simp; done) | (simp; omega) | exact Nat.le_refl _) _ | with_reducible refine Below.setCell ?_ (by first | with_reducible exact Nat.le_refl _ | omega | (simp; done) | (simp; omega) | exact Nat.le_refl _) _ | assumption | exact Below.refl _ _ | refine below_drewN ?_ _ | refine Below.al ?_ (by first | with_reducible exact Nat.le_refl _ | omega | (simp; done) | (simp; omega) | exact Nat.le_refl _) _ | refine Below.setCell ?_ (by first | with_reducible exact Nat.le_refl _ | omega | (simp; done) | (simp; omega) | exact Nat.le_refl _) _)) (by first | with_reducible exact Nat.le_refl _ | omega | (simp; done) | (simp; omega) | exact Nat.le_refl _)) (by first | with_reducible exact Nat.le_refl _ | omega | (simp; done) | (simp; omega) | exact Nat.le_refl _) HS0.out).mono ?_
      rintro e u8 ⟨ay0, ny0, cy0, rfl, ho, hb⟩
      have hc : Below u7.heap.size u7 u8 := Below.trans (by repeat (first | with_reducible assumption | with_reducible exact Below.refl _ _ | with_reducible refine below_drewN ?_ _ | with_reducible refine Below.al ?_ (by first | with_reducible exact Nat.le_refl _ | omega | (simp; done) | (simp; omega) | exact Nat.le_refl _) _ | with_reducible refine Below.setCell ?_ (by first | with_reducible exact Nat.le_refl _ | omega | (simp; done) | (simp; omega) | exact Nat.le_refl _) _ | assumption | exact Below.refl _ _ | refine below_drewN ?_ _ | refine Below.al ?_ (by first | with_reducible exact Nat.le_refl _ | omega | (simp; done) | (simp; omega) | exact Nat.le_refl _) _ | refine Below.setCell ?_ (by first | with_reducible exact Nat.le_refl _ | omega | (simp; done) | (simp; omega) | exact Nat.le_refl _) _)) (hb.mono (by first | with_reducible exact Nat.le_refl _ | omega | (simp; done) | (simp; omega) | exact Nat.le_refl _))
      have z8 : u7.heap.size ≤ u8.heap.size := hc.size
      replace B0c0 : u8.cell? ⟨u3.heap.size, 0, none⟩ = some (.slice aW nW cW) := (by rw [(bcell hc).1 _ _ B0s]; exact B0c0)
      replace B0s : u3.heap.size < u8.heap.size := (by omega)
      replace B1c0 : u8.cell? ⟨u6.heap.size, 0, none⟩ = some (.slice aG nG cG) := (by rw [(bcell hc).1 _ _ B1s]; exact B1c0)
      replace B1s : u6.heap.size < u8.heap.size := (by omega)
      replace DA0 : Hid (IntsA false (0) w.heap.size u8 a0 n0 c0 xs0) := hid (beInts DA0.out hc (by omega))
      replace DA1 : Hid (IntsA false (0) w.heap.size u8 a1 n1 c1 xs1) := hid (beInts DA1.out hc (by omega))
      replace DW : Hid (IntsA true (u2.heap.size) u3.heap.size u8 aW nW cW dxs) := hid (beInts DW.out hc (by omega))
      replace Dx0 : Hid (IntsA true (u3.heap.size + 1) u4.heap.size u8 ax0 nx0 cx0 xs0) := hid (beInts Dx0.out hc (by omega))
      replace Dx1 : Hid (IntsA true (u4.heap.size) u5.heap.size u8 ax1 nx1 cx1 xs1) := hid (beInts Dx1.out hc (by omega))
      replace DG : Hid (IntsA true (u5.heap.size) u6.heap.size u8 aG nG cG dxs) := hid (beInts DG.out hc (by omega))
      replace HW : Hid (Below w.heap.size w u8) := hid (Below.calm HW.out hc)
      have Dy0 : Hid (IntsA true (u7.heap.size) u8.heap.size u8 ay0 ny0 cy0 xs0) := hid (wdInts ho (by first | with_reducible exact Nat.le_refl _ | omega | (simp; done) | (simp; omega) | exact Nat.le_refl _))
      clear ho hb hc
      go_wp2_with fail
      refine (eqK_Ints ax0 ay0 nx0 cx0 ny0 cy0 xs0 _ (beInts (B := u8.heap.size) Dx0.out (by repeat (first | with_reducible assumption | with_reducible exact Below.refl _ _ | with_reducible refine below_drewN ?_ _ | with_reducible refine Below.al ?_ (by first | with_reducible exact Nat.le_refl _ | omega | (simp; done) | (simp; omega) | exact Nat.le_refl _) _ | with_reducible refine Below.setCell ?_ (by first | with_reducible exact Nat.le_refl _ | omega | (simp; done) | (simp; omega) | exact Nat.le_refl _) _ | assumption | exact Below.refl _ _ | refine below_drewN ?_ _ | refine Below.al ?_ (by first | with_reducible exact Nat.le_refl _ | omega | (simp; done) | (simp; omega) | exact Nat.le_refl _) _ | refine Below.setCell ?_ (by first | with_reducible exact Nat.le_refl _ | omega | (simp; done) | (simp; omega) | exact Nat.le_refl _) _)) (by first | with_reducible exact Nat.le_refl _ | omega | (simp; done) | (simp; omega) | exact Nat.le_refl _)) (beInts (B := u8.heap.size) Dy0.out (by repeat (first | with_reducible assumption | with_reducible exact Below.refl _ _ | with_reducible refine below_drewN ?_ _ | with_reducible refine Below.al ?_ (by first | with_reducible exact Nat.le_refl _ | omega | (simp; done) | (simp; omega) | exact Nat.le_refl _) _ | with_reducible refine Below.setCell ?_ (by first | with_reducible exact Nat.le_refl _ | omega | (simp; done) | (simp; omega) | exact Nat.le_refl _) _ | assumption | exact Below.refl _ _ | refine below_drewN ?_ _ | refine Below.al ?_ (by first | with_reducible exact Nat.le_refl _ | omega | (simp; done) | (simp; omega) | exact Nat.le_refl _) _ | refine Below.setCell ?_ (by first | with_reducible exact Nat.le_refl _ | omega | (simp; done) | (simp; omega) | exact Nat.le_refl _) _)) (by first | with_reducible exact Nat.le_refl _ | omega | (simp; done) | (simp; omega) | exact Nat.le_refl _))).mono ?_
      rintro e u9 hg; obtain ⟨rfl, hb⟩ := Gives.leaves hg; clear hg
      have hc : Below u8.heap.size u8 u9 := Below.trans (by repeat (first | with_reducible assumption | with_reducible exact Below.refl _ _ | with_reducible refine below_drewN ?_ _ | with_reducible refine Below.al ?_ (by first | with_reducible exact Nat.le_refl _ | omega | (simp; done) | (simp; omega) | exact Nat.le_refl _) _ | with_reducible refine Below.setCell ?_ (by first | with_reducible exact Nat.le_refl _ | omega | (simp; done) | (simp; omega) | exact Nat.le_refl _) _ | assumption | exact Below.refl _ _ | refine below_drewN ?_ _ | refine Below.al ?_ (by first | with_reducible exact Nat.le_refl _ | omega | (simp; done) | (simp; omega) | exact Nat.le_refl _) _ | refine Below.setCell ?_ (by first | with_reducible exact Nat.le_refl _ | omega | (simp; done) | (simp; omega) | exact Nat.le_refl _) _)) (hb.mono (by first | with_reducible exact Nat.le_refl _ | omega | (simp; done) | (simp; omega) | exact Nat.le_refl _))
      have z9 : u8.heap.size ≤ u9.heap.size := hc.size
      replace B0c0 : u9.cell? ⟨u3.heap.size, 0, none⟩ = some (.slice aW nW cW) := (by rw [(bcell hc).1 _ _ B0s]; exact B0c0)
      replace B0s : u3.heap.size < u9.heap.size := (by omega)
      replace B1c0 : u9.cell? ⟨u6.heap.size, 0, none⟩ = some (.slice aG nG cG) := (by rw [(bcell hc).1 _ _ B1s]; exact B1c0)
      replace B1s : u6.heap.size < u9.heap.size := (by omega)
      replace DA0 : Hid (IntsA false (0) w.heap.size u9 a0 n0 c0 xs0) := hid (beInts DA0.out hc (by omega))
      replace DA1 : Hid (IntsA false (0) w.heap.size u9 a1 n1 c1 xs1) := hid (beInts DA1.out hc (by omega))
      replace DW : Hid (IntsA true (u2.heap.size) u3.heap.size u9 aW nW cW dxs) := hid (beInts DW.out hc (by omega))
      replace Dx0 : Hid (IntsA true (u3.heap.size + 1) u4.heap.size u9 ax0 nx0 cx0 xs0) := hid (beInts Dx0.out hc (by omega))
      replace Dx1 : Hid (IntsA true (u4.heap.size) u5.heap.size u9 ax1 nx1 cx1 xs1) := hid (beInts Dx1.out hc (by omega))
      replace DG : Hid (IntsA true (u5.heap.size) u6.heap.size u9 aG nG cG dxs) := hid (beInts DG.out hc (by omega))
      replace Dy0 : Hid (IntsA true (u7.heap.size) u8.heap.size u9 ay0 ny0 cy0 xs0) := hid (beInts Dy0.out hc (by omega))
      replace HW : Hid (Below w.heap.size w u9) := hid (Below.calm HW.out hc)
      clear hb hc
      go_wp2_with fail
      refine (toK_Ints a1 n1 c1 xs1 _ (beInts (B := u9.heap.size) DA1.out (by repeat (first | with_reducible assumption | with_reducible exact Below.refl _ _ | with_reducible refine below_drewN ?_ _ | with_reducible refine Below.al ?_ (by first | with_reducible exact Nat.le_refl _ | omega | (simp; done) | (simp; omega) | exact Nat.le_refl _) _ | with_reducible refine Below.setCell ?_ (by first | with_reducible exact Nat.le_refl _ | omega | (simp; done) | (simp; omega) | exact Nat.le_refl _) _ | assumption | exact Below.refl _ _ | refine below_drewN ?_ _ | refine Below.al ?_ (by first | with_reducible exact Nat.le_refl _ | omega | (simp; done) | (simp; omega) | exact Nat.le_refl _) _ | refine Below.setCell ?_ (by first | with_reducible exact Nat.le_refl _ | omega | (simp; done) | (simp; omega) | exact Nat.le_refl _) _)) (by first | with_reducible exact Nat.le_refl _ | omega | (simp; done) | (simp; omega) | exact Nat.le_refl _)) (by first | with_reducible exact Nat.le_refl _ | omega | (simp; done) | (simp; omega) | exact Nat.le_refl _) HS1.out).mono ?_
      rintro e u10 ⟨ay1, ny1, cy1, rfl, ho, hb⟩
      have hc : Below u9.heap.size u9 u10 := Below.trans (by repeat (first | with_reducible assumption | with_reducible exact Below.refl _ _ | with_reducible refine below_drewN ?_ _ | with_reducible refine Below.al ?_ (by first | with_reducible exact Nat.le_refl _ | omega | (simp; done) | (simp; omega) | exact Nat.le_refl _) _ | with_reducible refine Below.setCell ?_ (by first | with_reducible exact Nat.le_refl _ | omega | (simp; done) | (simp; omega) | exact Nat.le_refl _) _ | assumption | exact Below.refl _ _ | refine below_drewN ?_ _ | refine Below.al ?_ (by first | with_reducible exact Nat.le_refl _ | omega | (simp; done) | (simp; omega) | exact Nat.le_refl _) _ | refine Below.setCell ?_ (by first | with_reducible exact Nat.le_refl _ | omega | (simp; done) | (simp; omega) | exact Nat.le_refl _) _)) (hb.mono (by first | with_reducible exact Nat.le_refl _ | omega | (simp; done) | (simp; omega) | exact Nat.le_refl _))
      have z10 : u9.heap.size ≤ u10.heap.size := hc.size
      replace B0c0 : u10.cell? ⟨u3.heap.size, 0, none⟩ = some (.slice aW nW cW) := (by rw [(bcell hc).1 _ _ B0s]; exact B0c0)
      replace B0s : u3.heap.size < u10.heap.size := (by omega)
      replace B1c0 : u10.cell? ⟨u6.heap.size, 0, none⟩ = some (.slice aG nG cG) := (by rw [(bcell hc).1 _ _ B1s]; exact B1c0)
      replace B1s : u6.heap.size < u10.heap.size := (by omega)
      replace DA0 : Hid (IntsA false (0) w.heap.size u10 a0 n0 c0 xs0) := hid (beInts DA0.out hc (by omega))
      replace DA1 : Hid (IntsA false (0) w.heap.size u10 a1 n1 c1 xs1) := hid (beInts DA1.out hc (by omega))
      replace DW : Hid (IntsA true (u2.heap.size) u3.heap.size u10 aW nW cW dxs) := hid (beInts DW.out hc (by omega))
      replace Dx0 : Hid (IntsA true (u3.heap.size + 1) u4.heap.size u10 ax0 nx0 cx0 xs0) := hid (beInts Dx0.out hc (by omega))
      replace Dx1 : Hid (IntsA true (u4.heap.size) u5.heap.size u10 ax1 nx1 cx1 xs1) := hid (beInts Dx1.out hc (by omega))
      replace DG : Hid (IntsA true (u5.heap.size) u6.heap.size u10 aG nG cG dxs) := hid (beInts DG.out hc (by omega))
      replace HW : Hid (Below w.heap.size w u10) := hid (Below.calm HW.out hc)
      have Dy1 : Hid (IntsA true (u9.heap.size) u10.heap.size u10 ay1 ny1 cy1 xs1) := hid (wdInts ho (by first | with_reducible exact Nat.le_refl _ | omega | (simp; done) | (simp; omega) | exact Nat.le_refl _))
      clear ho hb hc
      go_wp2_with fail
      refine (eqK_Ints ax1 ay1 nx1 cx1 ny1 cy1 xs1 _ (beInts (B := u10.heap.size) Dx1.out (by repeat (first | with_reducible assumption | with_reducible exact Below.refl _ _ | with_reducible refine below_drewN ?_ _ | with_reducible refine Below.al ?_ (by first | with_reducible exact Nat.le_refl _ | omega | (simp; done) | (simp; omega) | exact Nat.le_refl _) _ | with_reducible refine Below.setCell ?_ (by first | with_reducible exact Nat.le_refl _ | omega | (simp; done) | (simp; omega) | exact Nat.le_refl _) _ | assumption | exact Below.refl _ _ | refine below_drewN ?_ _ | refine Below.al ?_ (by first | with_reducible exact Nat.le_refl _ | omega | (simp; done) | (simp; omega) | exact Nat.le_refl _) _ | refine Below.setCell ?_ (by first | with_reducible exact Nat.le_refl _ | omega | (simp; done) | (simp; omega) | exact Nat.le_refl _) _)) (by first | with_reducible exact Nat.le_refl _ | omega | (simp; done) | (simp; omega) | exact Nat.le_refl _)) (beInts (B := u10.heap.size) Dy1.out (by repeat (first | with_reducible assumption | with_reducible exact Below.refl _ _ | with_reducible refine below_drewN ?_ _ | with_reducible refine Below.al ?_ (by first | with_reducible exact Nat.le_refl _ | omega | (simp; done) | (simp; omega) | exact Nat.le_refl _) _ | with_reducible refine Below.setCell ?_ (by first | with_reducible exact Nat.le_refl _ | omega | (simp; done) | (simp; omega) | exact Nat.le_refl _) _ | assumption | exact Below.refl _ _ | refine below_drewN ?_ _ | refine Below.al ?_ (by first | with_reducible exact Nat.le_refl _ | omega | (simp; done) | (simp; omega) | exact Nat.le_refl _) _ | refine Below.setCell ?_ (by first | with_reducible exact Nat.le_refl _ | omega | (simp; done) | (simp; omega) | exact Nat.le_refl _) _)) (by first | with_reducible exact Nat.le_refl _ | omega | (simp; done) | (simp; omega) | exact Nat.le_refl _))).mono ?_
      rintro e u11 hg; obtain ⟨rfl, hb⟩ := Gives.leaves hg; clear hg
      have hc : Below u10.heap.size u10 u11 := Below.trans (by repeat (first | with_reducible assumption | with_reducible exact Below.refl _ _ | with_reducible refine below_drewN ?_ _ | with_reducible refine Below.al ?_ (by first | with_reducible exact Nat.le_refl _ | omega | (simp; done) | (simp; omega) | exact Nat.le_refl _) _ | with_reducible refine Below.setCell ?_ (by first | with_reducible exact Nat.le_refl _ | omega | (simp; done) | (simp; omega) | exact Nat.le_refl _) _ | assumption | exact Below.refl _ _ | refine below_drewN ?_ _ | refine Below.al ?_ (by first | with_reducible exact Nat.le_refl _ | omega | (simp; done) | (simp; omega) | exact Nat.le_refl _) _ | refine Below.setCell ?_ (by first | with_reducible exact Nat.le_refl _ | omega | (simp; done) | (simp; omega) | exact Nat.le_refl _) _)) (hb.mono (by first | with_reducible exact Nat.le_refl _ | omega | (simp; done) | (simp; omega) | exact Nat.le_refl _))
      have z11 : u10.heap.size ≤ u11.heap.size := hc.size
      replace B0c0 : u11.cell? ⟨u3.heap.size, 0, none⟩ = some (.slice aW nW cW) := (by rw [(bcell hc).1 _ _ B0s]; exact B0c0)
      replace B0s : u3.heap.size < u11.heap.size := (by omega)
      replace B1c0 : u11.cell? ⟨u6.heap.size, 0, none⟩ = some (.slice aG nG cG) := (by rw [(bcell hc).1 _ _ B1s]; exact B1c0)
      replace B1s : u6.heap.size < u11.heap.size := (by omega)
      replace DA0 : Hid (IntsA false (0) w.heap.size u11 a0 n0 c0 xs0) := hid (beInts DA0.out hc (by omega))
      replace DA1 : Hid (IntsA false (0) w.heap.size u11 a1 n1 c1 xs1) := hid (beInts DA1.out hc (by omega))
      replace DW : Hid (IntsA true (u2.heap.size) u3.heap.size u11 aW nW cW dxs) := hid (beInts DW.out hc (by omega))
      replace Dx0 : Hid (IntsA true (u3.heap.size + 1) u4.heap.size u11 ax0 nx0 cx0 xs0) := hid (beInts Dx0.out hc (by omega))
      replace Dx1 : Hid (IntsA true (u4.heap.size) u5.heap.size u11 ax1 nx1 cx1 xs1) := hid (beInts Dx1.out hc (by omega))
      replace DG : Hid (IntsA true (u5.heap.size) u6.heap.size u11 aG nG cG dxs) := hid (beInts DG.out hc (by omega))
      replace Dy1 : Hid (IntsA true (u9.heap.size) u10.heap.size u11 ay1 ny1 cy1 xs1) := hid (beInts Dy1.out hc (by omega))
      replace HW : Hid (Below w.heap.size w u11) := hid (Below.calm HW.out hc)
      clear hb hc
      have hkb : (0 : Int) ≤ 1 ∧ (1 : Int) ≤ 1 := by omega
      have hcl0 : xs0.length ≤ 1048576 := by have h1 := HS0.out; have h2 : xs0.length ≤ xs0.length := (Nat.le_refl _); omega
      obtain ⟨k1, hk1⟩ : ∃ k : Int, k = 1 + (xs0.length : Nat) := ⟨_, rfl⟩
      have hkb1 : 0 ≤ k1 ∧ k1 ≤ 1048577 := by omega
      have HK1 := hid hk1; clear hk1 hcl0
      go_wp2_with fail
      refine (markK_Ints ax0 nx0 cx0 xs0 1 _ (beInts (B := u11.heap.size) Dx0.out (by repeat (first | with_reducible assumption | with_reducible exact Below.refl _ _ | with_reducible refine below_drewN ?_ _ | with_reducible refine Below.al ?_ (by first | with_reducible exact Nat.le_refl _ | omega | (simp; done) | (simp; omega) | exact Nat.le_refl _) _ | with_reducible refine Below.setCell ?_ (by first | with_reducible exact Nat.le_refl _ | omega | (simp; done) | (simp; omega) | exact Nat.le_refl _) _ | assumption | exact Below.refl _ _ | refine below_drewN ?_ _ | refine Below.al ?_ (by first | with_reducible exact Nat.le_refl _ | omega | (simp; done) | (simp; omega) | exact Nat.le_refl _) _ | refine Below.setCell ?_ (by first | with_reducible exact Nat.le_refl _ | omega | (simp; done) | (simp; omega) | exact Nat.le_refl _) _)) (by first | with_reducible exact Nat.le_refl _ | omega | (simp; done) | (simp; omega) | exact Nat.le_refl _)) (by omega) (by omega) HS0.out).mono ?_
      rintro e u12 ⟨rfl, hm⟩
      rw [← HK1.out]
      have z12 : u11.heap.size ≤ u12.heap.size := hm.size
      replace B0c0 : u12.cell? ⟨u3.heap.size, 0, none⟩ = some (.slice aW nW cW) := (by rw [boxG hm _ B0s (by omega)]; exact B0c0)
      replace B0s : u3.heap.size < u12.heap.size := (by omega)
      replace B1c0 : u12.cell? ⟨u6.heap.size, 0, none⟩ = some (.slice aG nG cG) := (by rw [boxG hm _ B1s (by omega)]; exact B1c0)
      replace B1s : u6.heap.size < u12.heap.size := (by omega)
      replace DA0 : Hid (IntsA false (0) w.heap.size u12 a0 n0 c0 xs0) := hid (kpInts DA0.out (hm.keeps (by omega) (by omega)))
      replace DA1 : Hid (IntsA false (0) w.heap.size u12 a1 n1 c1 xs1) := hid (kpInts DA1.out (hm.keeps (by omega) (by omega)))
      replace DW : Hid (IntsA true (u2.heap.size) u3.heap.size u12 aW nW cW dxs) := hid (kpInts DW.out (hm.keeps (by omega) (by omega)))
      replace Dx1 : Hid (IntsA true (u4.heap.size) u5.heap.size u12 ax1 nx1 cx1 xs1) := hid (kpInts Dx1.out (hm.keeps (by omega) (by omega)))
      replace DG : Hid (IntsA true (u5.heap.size) u6.heap.size u12 aG nG cG dxs) := hid (kpInts DG.out (hm.keeps (by omega) (by omega)))
      replace HW : Hid (Below w.heap.size w u12) := hid (HW.out.trans (hm.below (by omega) (by omega)))
      clear hm
      have hcl1 : xs1.length ≤ 1048576 := by have h1 := HS1.out; have h2 : xs1.length ≤ xs1.length := (Nat.le_refl _); omega
      obtain ⟨k2, hk2⟩ : ∃ k : Int, k = k1 + (xs1.length : Nat) := ⟨_, rfl⟩
      have hkb2 : 0 ≤ k2 ∧ k2 ≤ 2097153 := by omega
      have HK2 := hid hk2; clear hk2 hcl1
      go_wp2_with fail
      refine (markK_Ints ax1 nx1 cx1 xs1 k1 _ (beInts (B := u12.heap.size) Dx1.out (by repeat (first | with_reducible assumption | with_reducible exact Below.refl _ _ | with_reducible refine below_drewN ?_ _ | with_reducible refine Below.al ?_ (by first | with_reducible exact Nat.le_refl _ | omega | (simp; done) | (simp; omega) | exact Nat.le_refl _) _ | with_reducible refine Below.setCell ?_ (by first | with_reducible exact Nat.le_refl _ | omega | (simp; done) | (simp; omega) | exact Nat.le_refl _) _ | assumption | exact Below.refl _ _ | refine below_drewN ?_ _ | refine Below.al ?_ (by first | with_reducible exact Nat.le_refl _ | omega | (simp; done) | (simp; omega) | exact Nat.le_refl _) _ | refine Below.setCell ?_ (by first | with_reducible exact Nat.le_refl _ | omega | (simp; done) | (simp; omega) | exact Nat.le_refl _) _)) (by first | with_reducible exact Nat.le_refl _ | omega | (simp; done) | (simp; omega) | exact Nat.le_refl _)) (by omega) (by omega) HS1.out).mono ?_
      rintro e u13 ⟨rfl, hm⟩
      rw [← HK2.out]
      have z13 : u12.heap.size ≤ u13.heap.size := hm.size
      replace B0c0 : u13.cell? ⟨u3.heap.size, 0, none⟩ = some (.slice aW nW cW) := (by rw [boxG hm _ B0s (by omega)]; exact B0c0)
      replace B0s : u3.heap.size < u13.heap.size := (by omega)
      replace B1c0 : u13.cell? ⟨u6.heap.size, 0, none⟩ = some (.slice aG nG cG) := (by rw [boxG hm _ B1s (by omega)]; exact B1c0)
      replace B1s : u6.heap.size < u13.heap.size := (by omega)
      replace DA0 : Hid (IntsA false (0) w.heap.size u13 a0 n0 c0 xs0) := hid (kpInts DA0.out (hm.keeps (by omega) (by omega)))
      replace DA1 : Hid (IntsA false (0) w.heap.size u13 a1 n1 c1 xs1) := hid (kpInts DA1.out (hm.keeps (by omega) (by omega)))
      replace DW : Hid (IntsA true (u2.heap.size) u3.heap.size u13 aW nW cW dxs) := hid (kpInts DW.out (hm.keeps (by omega) (by omega)))
      replace DG : Hid (IntsA true (u5.heap.size) u6.heap.size u13 aG nG cG dxs) := hid (kpInts DG.out (hm.keeps (by omega) (by omega)))
      replace HW : Hid (Below w.heap.size w u13) := hid (HW.out.trans (hm.below (by omega) (by omega)))
      clear hm
      go_wp2_with fail
      refine (eqK_Big aG aW nG cG nW cW dxs _ ((beInts (B := u13.heap.size) DG.out (by repeat (first | with_reducible assumption | with_reducible exact Below.refl _ _ | with_reducible refine below_drewN ?_ _ | with_reducible refine Below.al ?_ (by first | with_reducible exact Nat.le_refl _ | omega | (simp; done) | (simp; omega) | exact Nat.le_refl _) _ | with_reducible refine Below.setCell ?_ (by first | with_reducible exact Nat.le_refl _ | omega | (simp; done) | (simp; omega) | exact Nat.le_refl _) _ | assumption | exact Below.refl _ _ | refine below_drewN ?_ _ | refine Below.al ?_ (by first | with_reducible exact Nat.le_refl _ | omega | (simp; done) | (simp; omega) | exact Nat.le_refl _) _ | refine Below.setCell ?_ (by first | with_reducible exact Nat.le_refl _ | omega | (simp; done) | (simp; omega) | exact Nat.le_refl _) _)) (by first | with_reducible exact Nat.le_refl _ | omega | (simp; done) | (simp; omega) | exact Nat.le_refl _))) (by first | with_reducible exact Nat.le_refl _ | omega | (simp; done) | (simp; omega) | exact Nat.le_refl _) (beInts (B := u13.heap.size) DW.out (by repeat (first | with_reducible assumption | with_reducible exact Below.refl _ _ | with_reducible refine below_drewN ?_ _ | with_reducible refine Below.al ?_ (by first | with_reducible exact Nat.le_refl _ | omega | (simp; done) | (simp; omega) | exact Nat.le_refl _) _ | with_reducible refine Below.setCell ?_ (by first | with_reducible exact Nat.le_refl _ | omega | (simp; done) | (simp; omega) | exact Nat.le_refl _) _ | assumption | exact Below.refl _ _ | refine below_drewN ?_ _ | refine Below.al ?_ (by first | with_reducible exact Nat.le_refl _ | omega | (simp; done) | (simp; omega) | exact Nat.le_refl _) _ | refine Below.setCell ?_ (by first | with_reducible exact Nat.le_refl _ | omega | (simp; done) | (simp; omega) | exact Nat.le_refl _) _)) (by first | with_reducible exact Nat.le_refl _ | omega | (simp; done) | (simp; omega) | exact Nat.le_refl _)) (by first | with_reducible exact Nat.le_refl _ | omega | (simp; done) | (simp; omega) | exact Nat.le_refl _)).mono ?_
      rintro e u14 ⟨rfl, hb⟩
      have hc : Below u13.heap.size u13 u14 := Below.trans (by repeat (first | with_reducible assumption | with_reducible exact Below.refl _ _ | with_reducible refine below_drewN ?_ _ | with_reducible refine Below.al ?_ (by first | with_reducible exact Nat.le_refl _ | omega | (simp; done) | (simp; omega) | exact Nat.le_refl _) _ | with_reducible refine Below.setCell ?_ (by first | with_reducible exact Nat.le_refl _ | omega | (simp; done) | (simp; omega) | exact Nat.le_refl _) _ | assumption | exact Below.refl _ _ | refine below_drewN ?_ _ | refine Below.al ?_ (by first | with_reducible exact Nat.le_refl _ | omega | (simp; done) | (simp; omega) | exact Nat.le_refl _) _ | refine Below.setCell ?_ (by first | with_reducible exact Nat.le_refl _ | omega | (simp; done) | (simp; omega) | exact Nat.le_refl _) _)) (hb.mono (by first | with_reducible exact Nat.le_refl _ | omega | (simp; done) | (simp; omega) | exact Nat.le_refl _))
      have z14 : u13.heap.size ≤ u14.heap.size := hc.size
      replace B0c0 : u14.cell? ⟨u3.heap.size, 0, none⟩ = some (.slice aW nW cW) := (by rw [(bcell hc).1 _ _ B0s]; exact B0c0)
      replace B0s : u3.heap.size < u14.heap.size := (by omega)
      replace B1c0 : u14.cell? ⟨u6.heap.size, 0, none⟩ = some (.slice aG nG cG) := (by rw [(bcell hc).1 _ _ B1s]; exact B1c0)
      replace B1s : u6.heap.size < u14.heap.size := (by omega)
      replace DA0 : Hid (IntsA false (0) w.heap.size u14 a0 n0 c0 xs0) := hid (beInts DA0.out hc (by omega))
      replace DA1 : Hid (IntsA false (0) w.heap.size u14 a1 n1 c1 xs1) := hid (beInts DA1.out hc (by omega))
      replace DW : Hid (IntsA true (u2.heap.size) u3.heap.size u14 aW nW cW dxs) := hid (beInts DW.out hc (by omega))
      replace DG : Hid (IntsA true (u5.heap.size) u6.heap.size u14 aG nG cG dxs) := hid (beInts DG.out hc (by omega))
      replace HW : Hid (Below w.heap.size w u14) := hid (Below.calm HW.out hc)
      clear hb hc
      have HSG : Hid (dxs.length ≤ 1048576) := hid (by rw [← HDxs.out]; exact Nat.le_trans (prodF_len xs0 xs1) (by omega))
      obtain ⟨lenG, hlenG⟩ : ∃ l, l = dxs.length := ⟨_, rfl⟩
      have HLG := hid hlenG; clear hlenG
      obtain ⟨km, hkm⟩ : ∃ k : Int, k = 1 + (lenG : Nat) := ⟨_, rfl⟩
      have hkmb : 0 ≤ km := by omega
      have hkne : (km != km) = false := by simp
      have HKM := hid hkm; clear hkm
      go_wp2_with fail
      refine (resK_Big aG nG cG dxs 1 _ (beInts (B := u14.heap.size) DG.out (by repeat (first | with_reducible assumption | with_reducible exact Below.refl _ _ | with_reducible refine below_drewN ?_ _ | with_reducible refine Below.al ?_ (by first | with_reducible exact Nat.le_refl _ | omega | (simp; done) | (simp; omega) | exact Nat.le_refl _) _ | with_reducible refine Below.setCell ?_ (by first | with_reducible exact Nat.le_refl _ | omega | (simp; done) | (simp; omega) | exact Nat.le_refl _) _ | assumption | exact Below.refl _ _ | refine below_drewN ?_ _ | refine Below.al ?_ (by first | with_reducible exact Nat.le_refl _ | omega | (simp; done) | (simp; omega) | exact Nat.le_refl _) _ | refine Below.setCell ?_ (by first | with_reducible exact Nat.le_refl _ | omega | (simp; done) | (simp; omega) | exact Nat.le_refl _) _)) (by first | with_reducible exact Nat.le_refl _ | omega | (simp; done) | (simp; omega) | exact Nat.le_refl _)) (by first | with_reducible exact Nat.le_refl _ | omega | (simp; done) | (simp; omega) | exact Nat.le_refl _) (by omega) (by omega) HSG.out).mono ?_
      rintro e u15 ⟨rfl, hm, ho⟩
      rw [← HLG.out]; rw [← HKM.out]
      have z15 : u14.heap.size ≤ u15.heap.size := hm.size
      replace B0c0 : u15.cell? ⟨u3.heap.size, 0, none⟩ = some (.slice aW nW cW) := (by rw [boxG hm _ B0s (by omega)]; exact B0c0)
      replace B0s : u3.heap.size < u15.heap.size := (by omega)
      replace B1c0 : u15.cell? ⟨u6.heap.size, 0, none⟩ = some (.slice aG nG cG) := (by rw [boxG hm _ B1s (by omega)]; exact B1c0)
      replace B1s : u6.heap.size < u15.heap.size := (by omega)
      replace DA0 : Hid (IntsA false (0) w.heap.size u15 a0 n0 c0 xs0) := hid (kpInts DA0.out (hm.keeps (by omega) (by omega)))
      replace DA1 : Hid (IntsA false (0) w.heap.size u15 a1 n1 c1 xs1) := hid (kpInts DA1.out (hm.keeps (by omega) (by omega)))
      replace DW : Hid (IntsA true (u2.heap.size) u3.heap.size u15 aW nW cW dxs) := hid (kpInts DW.out (hm.keeps (by omega) (by omega)))
      replace HW : Hid (Below w.heap.size w u15) := hid (HW.out.trans (hm.below (by omega) (by omega)))
      have DM : Hid (IntsA true (u5.heap.size) u6.heap.size u15 aG nG cG (marks 1 (dxs).length)) := hid ho
      clear ho hm
      go_wp2_with fail
      refine (heldK_Big aG nG cG dxs 1 _ (beInts (B := u15.heap.size) DM.out (by repeat (first | with_reducible assumption | with_reducible exact Below.refl _ _ | with_reducible refine below_drewN ?_ _ | with_reducible refine Below.al ?_ (by first | with_reducible exact Nat.le_refl _ | omega | (simp; done) | (simp; omega) | exact Nat.le_refl _) _ | with_reducible refine Below.setCell ?_ (by first | with_reducible exact Nat.le_refl _ | omega | (simp; done) | (simp; omega) | exact Nat.le_refl _) _ | assumption | exact Below.refl _ _ | refine below_drewN ?_ _ | refine Below.al ?_ (by first | with_reducible exact Nat.le_refl _ | omega | (simp; done) | (simp; omega) | exact Nat.le_refl _) _ | refine Below.setCell ?_ (by first | with_reducible exact Nat.le_refl _ | omega | (simp; done) | (simp; omega) | exact Nat.le_refl _) _)) (by first | with_reducible exact Nat.le_refl _ | omega | (simp; done) | (simp; omega) | exact Nat.le_refl _)) (by first | with_reducible exact Nat.le_refl _ | omega | (simp; done) | (simp; omega) | exact Nat.le_refl _) (by omega) (by omega) HSG.out).mono ?_
      rintro e u16 ⟨rfl, hb⟩
      rw [← HLG.out, ← HKM.out]
      have hc : Below u15.heap.size u15 u16 := Below.trans (by repeat (first | with_reducible assumption | with_reducible exact Below.refl _ _ | with_reducible refine below_drewN ?_ _ | with_reducible refine Below.al ?_ (by first | with_reducible exact Nat.le_refl _ | omega | (simp; done) | (simp; omega) | exact Nat.le_refl _) _ | with_reducible refine Below.setCell ?_ (by first | with_reducible exact Nat.le_refl _ | omega | (simp; done) | (simp; omega) | exact Nat.le_refl _) _ | assumption | exact Below.refl _ _ | refine below_drewN ?_ _ | refine Below.al ?_ (by first | with_reducible exact Nat.le_refl _ | omega | (simp; done) | (simp; omega) | exact Nat.le_refl _) _ | refine Below.setCell ?_ (by first | with_reducible exact Nat.le_refl _ | omega | (simp; done) | (simp; omega) | exact Nat.le_refl _) _)) (hb.mono (by first | with_reducible exact Nat.le_refl _ | omega | (simp; done) | (simp; omega) | exact Nat.le_refl _))
      have z16 : u15.heap.size ≤ u16.heap.size := hc.size
      replace B0c0 : u16.cell? ⟨u3.heap.size, 0, none⟩ = some (.slice aW nW cW) := (by rw [(bcell hc).1 _ _ B0s]; exact B0c0)
      replace B0s : u3.heap.size < u16.heap.size := (by omega)
      replace B1c0 : u16.cell? ⟨u6.heap.size, 0, none⟩ = some (.slice aG nG cG) := (by rw [(bcell hc).1 _ _ B1s]; exact B1c0)
      replace B1s : u6.heap.size < u16.heap.size := (by omega)
      replace DA0 : Hid (IntsA false (0) w.heap.size u16 a0 n0 c0 xs0) := hid (beInts DA0.out hc (by omega))
      replace DA1 : Hid (IntsA false (0) w.heap.size u16 a1 n1 c1 xs1) := hid (beInts DA1.out hc (by omega))
      replace DW : Hid (IntsA true (u2.heap.size) u3.heap.size u16 aW nW cW dxs) := hid (beInts DW.out hc (by omega))
      replace DM : Hid (IntsA true (u5.heap.size) u6.heap.size u16 aG nG cG (marks 1 (dxs).length)) := hid (beInts DM.out hc (by omega))
      replace HW : Hid (Below w.heap.size w u16) := hid (Below.calm HW.out hc)
      clear hb hc
      go_wp2_with fail
      refine (toK_Ints a0 n0 c0 xs0 _ (beInts (B := u16.heap.size) DA0.out (by repeat (first | with_reducible assumption | with_reducible exact Below.refl _ _ | with_reducible refine below_drewN ?_ _ | with_reducible refine Below.al ?_ (by first | with_reducible exact Nat.le_refl _ | omega | (simp; done) | (simp; omega) | exact Nat.le_refl _) _ | with_reducible refine Below.setCell ?_ (by first | with_reducible exact Nat.le_refl _ | omega | (simp; done) | (simp; omega) | exact Nat.le_refl _) _ | assumption | exact Below.refl _ _ | refine below_drewN ?_ _ | refine Below.al ?_ (by first | with_reducible exact Nat.le_refl _ | omega | (simp; done) | (simp; omega) | exact Nat.le_refl _) _ | refine Below.setCell ?_ (by first | with_reducible exact Nat.le_refl _ | omega | (simp; done) | (simp; omega) | exact Nat.le_refl _) _)) (by first | with_reducible exact Nat.le_refl _ | omega | (simp; done) | (simp; omega) | exact Nat.le_refl _)) (by first | with_reducible exact Nat.le_refl _ | omega | (simp; done) | (simp; omega) | exact Nat.le_refl _) HS0.out).mono ?_
      rintro e u17 ⟨ah0, nh0, ch0, rfl, ho, hb⟩
      have hc : Below u16.heap.size u16 u17 := Below.trans (by repeat (first | with_reducible assumption | with_reducible exact Below.refl _ _ | with_reducible refine below_drewN ?_ _ | with_reducible refine Below.al ?_ (by first | with_reducible exact Nat.le_refl _ | omega | (simp; done) | (simp; omega) | exact Nat.le_refl _) _ | with_reducible refine Below.setCell ?_ (by first | with_reducible exact Nat.le_refl _ | omega | (simp; done) | (simp; omega) | exact Nat.le_refl _) _ | assumption | exact Below.refl _ _ | refine below_drewN ?_ _ | refine Below.al ?_ (by first | with_reducible exact Nat.le_refl _ | omega | (simp; done) | (simp; omega) | exact Nat.le_refl _) _ | refine Below.setCell ?_ (by first | with_reducible exact Nat.le_refl _ | omega | (simp; done) | (simp; omega) | exact Nat.le_refl _) _)) (hb.mono (by first | with_reducible exact Nat.le_refl _ | omega | (simp; done) | (simp; omega) | exact Nat.le_refl _))
      have z17 : u16.heap.size ≤ u17.heap.size := hc.size
      replace B0c0 : u17.cell? ⟨u3.heap.size, 0, none⟩ = some (.slice aW nW cW) := (by rw [(bcell hc).1 _ _ B0s]; exact B0c0)
      replace B0s : u3.heap.size < u17.heap.size := (by omega)
      replace B1c0 : u17.cell? ⟨u6.heap.size, 0, none⟩ = some (.slice aG nG cG) := (by rw [(bcell hc).1 _ _ B1s]; exact B1c0)
      replace B1s : u6.heap.size < u17.heap.size := (by omega)
      replace DA0 : Hid (IntsA false (0) w.heap.size u17 a0 n0 c0 xs0) := hid (beInts DA0.out hc (by omega))
      replace DA1 : Hid (IntsA false (0) w.heap.size u17 a1 n1 c1 xs1) := hid (beInts DA1.out hc (by omega))
      replace DW : Hid (IntsA true (u2.heap.size) u3.heap.size u17 aW nW cW dxs) := hid (beInts DW.out hc (by omega))
      replace DM : Hid (IntsA true (u5.heap.size) u6.heap.size u17 aG nG cG (marks 1 (dxs).length)) := hid (beInts DM.out hc (by omega))
      replace HW : Hid (Below w.heap.size w u17) := hid (Below.calm HW.out hc)
      have Dh0 : Hid (IntsA true (u16.heap.size) u17.heap.size u17 ah0 nh0 ch0 xs0) := hid (wdInts ho (by first | with_reducible exact Nat.le_refl _ | omega | (simp; done) | (simp; omega) | exact Nat.le_refl _))
      clear ho hb hc
      go_wp2_with fail
      refine (toK_Ints a1 n1 c1 xs1 _ (beInts (B := u17.heap.size) DA1.out (by repeat (first | with_reducible assumption | with_reducible exact Below.refl _ _ | with_reducible refine below_drewN ?_ _ | with_reducible refine Below.al ?_ (by first | with_reducible exact Nat.le_refl _ | omega | (simp; done) | (simp; omega) | exact Nat.le_refl _) _ | with_reducible refine Below.setCell ?_ (by first | with_reducible exact Nat.le_refl _ | omega | (simp; done) | (simp; omega) | exact Nat.le_refl _) _ | assumption | exact Below.refl _ _ | refine below_drewN ?_ _ | refine Below.al ?_ (by first | with_reducible exact Nat.le_refl _ | omega | (simp; done) | (simp; omega) | exact Nat.le_refl _) _ | refine Below.setCell ?_ (by first | with_reducible exact Nat.le_refl _ | omega | (simp; done) | (simp; omega) | exact Nat.le_refl _) _)) (by first | with_reducible exact Nat.le_refl _ | omega | (simp; done) | (simp; omega) | exact Nat.le_refl _)) (by first | with_reducible exact Nat.le_refl _ | omega | (simp; done) | (simp; omega) | exact Nat.le_refl _) HS1.out).mono ?_
      rintro e u18 ⟨ah1, nh1, ch1, rfl, ho, hb⟩
      have hc : Below u17.heap.size u17 u18 := Below.trans (by repeat (first | with_reducible assumption | with_reducible exact Below.refl _ _ | with_reducible refine below_drewN ?_ _ | with_reducible refine Below.al ?_ (by first | with_reducible exact Nat.le_refl _ | omega | (simp; done) | (simp; omega) | exact Nat.le_refl _) _ | with_reducible refine Below.setCell ?_ (by first | with_reducible exact Nat.le_refl _ | omega | (simp; done) | (simp; omega) | exact Nat.le_refl _) _ | assumption | exact Below.refl _ _ | refine below_drewN ?_ _ | refine Below.al ?_ (by first | with_reducible exact Nat.le_refl _ | omega | (simp; done) | (simp; omega) | exact Nat.le_refl _) _ | refine Below.setCell ?_ (by first | with_reducible exact Nat.le_refl _ | omega | (simp; done) | (simp; omega) | exact Nat.le_refl _) _)) (hb.mono (by first | with_reducible exact Nat.le_refl _ | omega | (simp; done) | (simp; omega) | exact Nat.le_refl _))
      have z18 : u17.heap.size ≤ u18.heap.size := hc.size
      replace B0c0 : u18.cell? ⟨u3.heap.size, 0, none⟩ = some (.slice aW nW cW) := (by rw [(bcell hc).1 _ _ B0s]; exact B0c0)
      replace B0s : u3.heap.size < u18.heap.size := (by omega)
      replace B1c0 : u18.cell? ⟨u6.heap.size, 0, none⟩ = some (.slice aG nG cG) := (by rw [(bcell hc).1 _ _ B1s]; exact B1c0)
      replace B1s : u6.heap.size < u18.heap.size := (by omega)
      replace DA0 : Hid (IntsA false (0) w.heap.size u18 a0 n0 c0 xs0) := hid (beInts DA0.out hc (by omega))
      replace DA1 : Hid (IntsA false (0) w.heap.size u18 a1 n1 c1 xs1) := hid (beInts DA1.out hc (by omega))
      replace DW : Hid (IntsA true (u2.heap.size) u3.heap.size u18 aW nW cW dxs) := hid (beInts DW.out hc (by omega))
      replace DM : Hid (IntsA true (u5.heap.size) u6.heap.size u18 aG nG cG (marks 1 (dxs).length)) := hid (beInts DM.out hc (by omega))
      replace Dh0 : Hid (IntsA true (u16.heap.size) u17.heap.size u18 ah0 nh0 ch0 xs0) := hid (beInts Dh0.out hc (by omega))
      replace HW : Hid (Below w.heap.size w u18) := hid (Below.calm HW.out hc)
      have Dh1 : Hid (IntsA true (u17.heap.size) u18.heap.size u18 ah1 nh1 ch1 xs1) := hid (wdInts ho (by first | with_reducible exact Nat.le_refl _ | omega | (simp; done) | (simp; omega) | exact Nat.le_refl _))
      clear ho hb hc
      go_wp2_with fail
      refine (implProd ah0 nh0 ch0 xs0 ah1 nh1 ch1 xs1 _ (beInts (B := u18.heap.size) Dh0.out (by repeat (first | with_reducible assumption | with_reducible exact Below.refl _ _ | with_reducible refine below_drewN ?_ _ | with_reducible refine Below.al ?_ (by first | with_reducible exact Nat.le_refl _ | omega | (simp; done) | (simp; omega) | exact Nat.le_refl _) _ | with_reducible refine Below.setCell ?_ (by first | with_reducible exact Nat.le_refl _ | omega | (simp; done) | (simp; omega) | exact Nat.le_refl _) _ | assumption | exact Below.refl _ _ | refine below_drewN ?_ _ | refine Below.al ?_ (by first | with_reducible exact Nat.le_refl _ | omega | (simp; done) | (simp; omega) | exact Nat.le_refl _) _ | refine Below.setCell ?_ (by first | with_reducible exact Nat.le_refl _ | omega | (simp; done) | (simp; omega) | exact Nat.le_refl _) _)) (by first | with_reducible exact Nat.le_refl _ | omega | (simp; done) | (simp; omega) | exact Nat.le_refl _)) (by first | with_reducible exact Nat.le_refl _ | omega | (simp; done) | (simp; omega) | exact Nat.le_refl _) (beInts (B := u18.heap.size) Dh1.out (by repeat (first | with_reducible assumption | with_reducible exact Below.refl _ _ | with_reducible refine below_drewN ?_ _ | with_reducible refine Below.al ?_ (by first | with_reducible exact Nat.le_refl _ | omega | (simp; done) | (simp; omega) | exact Nat.le_refl _) _ | with_reducible refine Below.setCell ?_ (by first | with_reducible exact Nat.le_refl _ | omega | (simp; done) | (simp; omega) | exact Nat.le_refl _) _ | assumption | exact Below.refl _ _ | refine below_drewN ?_ _ | refine Below.al ?_ (by first | with_reducible exact Nat.le_refl _ | omega | (simp; done) | (simp; omega) | exact Nat.le_refl _) _ | refine Below.setCell ?_ (by first | with_reducible exact Nat.le_refl _ | omega | (simp; done) | (simp; omega) | exact Nat.le_refl _) _)) (by first | with_reducible exact Nat.le_refl _ | omega | (simp; done) | (simp; omega) | exact Nat.le_refl _)) (by first | with_reducible exact Nat.le_refl _ | omega | (simp; done) | (simp; omega) | exact Nat.le_refl _)).mono ?_
      rintro e u19 ⟨aE, nE, cE, rfl, ho, hb⟩
      rw [HDxs.out] at ho; rw [HRB.out]
      have hc : Below u18.heap.size u18 u19 := Below.trans (by repeat (first | with_reducible assumption | with_reducible exact Below.refl _ _ | with_reducible refine below_drewN ?_ _ | with_reducible refine Below.al ?_ (by first | with_reducible exact Nat.le_refl _ | omega | (simp; done) | (simp; omega) | exact Nat.le_refl _) _ | with_reducible refine Below.setCell ?_ (by first | with_reducible exact Nat.le_refl _ | omega | (simp; done) | (simp; omega) | exact Nat.le_refl _) _ | assumption | exact Below.refl _ _ | refine below_drewN ?_ _ | refine Below.al ?_ (by first | with_reducible exact Nat.le_refl _ | omega | (simp; done) | (simp; omega) | exact Nat.le_refl _) _ | refine Below.setCell ?_ (by first | with_reducible exact Nat.le_refl _ | omega | (simp; done) | (simp; omega) | exact Nat.le_refl _) _)) (hb.mono (by first | with_reducible exact Nat.le_refl _ | omega | (simp; done) | (simp; omega) | exact Nat.le_refl _))
      have z19 : u18.heap.size ≤ u19.heap.size := hc.size
      replace B0c0 : u19.cell? ⟨u3.heap.size, 0, none⟩ = some (.slice aW nW cW) := (by rw [(bcell hc).1 _ _ B0s]; exact B0c0)
      replace B0s : u3.heap.size < u19.heap.size := (by omega)
      replace B1c0 : u19.cell? ⟨u6.heap.size, 0, none⟩ = some (.slice aG nG cG) := (by rw [(bcell hc).1 _ _ B1s]; exact B1c0)
      replace B1s : u6.heap.size < u19.heap.size := (by omega)
      replace DA0 : Hid (IntsA false (0) w.heap.size u19 a0 n0 c0 xs0) := hid (beInts DA0.out hc (by omega))
      replace DA1 : Hid (IntsA false (0) w.heap.size u19 a1 n1 c1 xs1) := hid (beInts DA1.out hc (by omega))
      replace DW : Hid (IntsA true (u2.heap.size) u3.heap.size u19 aW nW cW dxs) := hid (beInts DW.out hc (by omega))
      replace DM : Hid (IntsA true (u5.heap.size) u6.heap.size u19 aG nG cG (marks 1 (dxs).length)) := hid (beInts DM.out hc (by omega))
      replace Dh0 : Hid (IntsA true (u16.heap.size) u17.heap.size u19 ah0 nh0 ch0 xs0) := hid (beInts Dh0.out hc (by omega))
      replace Dh1 : Hid (IntsA true (u17.heap.size) u18.heap.size u19 ah1 nh1 ch1 xs1) := hid (beInts Dh1.out hc (by omega))
      replace HW : Hid (Below w.heap.size w u19) := hid (Below.calm HW.out hc)
      have DE : Hid (IntsA true (u18.heap.size) u19.heap.size u19 aE nE cE dxs) := hid (wdInts ho (by first | with_reducible exact Nat.le_refl _ | omega | (simp; done) | (simp; omega) | exact Nat.le_refl _))
      clear ho hb hc
      go_wp2_with fail
      refine (eqK_Big aE aW nE cE nW cW dxs _ ((beInts (B := u19.heap.size) DE.out (by repeat (first | with_reducible assumption | with_reducible exact Below.refl _ _ | with_reducible refine below_drewN ?_ _ | with_reducible refine Below.al ?_ (by first | with_reducible exact Nat.le_refl _ | omega | (simp; done) | (simp; omega) | exact Nat.le_refl _) _ | with_reducible refine Below.setCell ?_ (by first | with_reducible exact Nat.le_refl _ | omega | (simp; done) | (simp; omega) | exact Nat.le_refl _) _ | assumption | exact Below.refl _ _ | refine below_drewN ?_ _ | refine Below.al ?_ (by first | with_reducible exact Nat.le_refl _ | omega | (simp; done) | (simp; omega) | exact Nat.le_refl _) _ | refine Below.setCell ?_ (by first | with_reducible exact Nat.le_refl _ | omega | (simp; done) | (simp; omega) | exact Nat.le_refl _) _)) (by first | with_reducible exact Nat.le_refl _ | omega | (simp; done) | (simp; omega) | exact Nat.le_refl _))) (by first | with_reducible exact Nat.le_refl _ | omega | (simp; done) | (simp; omega) | exact Nat.le_refl _) (beInts (B := u19.heap.size) DW.out (by repeat (first | with_reducible assumption | with_reducible exact Below.refl _ _ | with_reducible refine below_drewN ?_ _ | with_reducible refine Below.al ?_ (by first | with_reducible exact Nat.le_refl _ | omega | (simp; done) | (simp; omega) | exact Nat.le_refl _) _ | with_reducible refine Below.setCell ?_ (by first | with_reducible exact Nat.le_refl _ | omega | (simp; done) | (simp; omega) | exact Nat.le_refl _) _ | assumption | exact Below.refl _ _ | refine below_drewN ?_ _ | refine Below.al ?_ (by first | with_reducible exact Nat.le_refl _ | omega | (simp; done) | (simp; omega) | exact Nat.le_refl _) _ | refine Below.setCell ?_ (by first | with_reducible exact Nat.le_refl _ | omega | (simp; done) | (simp; omega) | exact Nat.le_refl _) _)) (by first | with_reducible exact Nat.le_refl _ | omega | (simp; done) | (simp; omega) | exact Nat.le_refl _)) (by first | with_reducible exact Nat.le_refl _ | omega | (simp; done) | (simp; omega) | exact Nat.le_refl _)).mono ?_
      rintro e u20 ⟨rfl, hb⟩
      have hc : Below u19.heap.size u19 u20 := Below.trans (by repeat (first | with_reducible assumption | with_reducible exact Below.refl _ _ | with_reducible refine below_drewN ?_ _ | with_reducible refine Below.al ?_ (by first | with_reducible exact Nat.le_refl _ | omega | (simp; done) | (simp; omega) | exact Nat.le_refl _) _ | with_reducible refine Below.setCell ?_ (by first | with_reducible exact Nat.le_refl _ | omega | (simp; done) | (simp; omega) | exact Nat.le_refl _) _ | assumption | exact Below.refl _ _ | refine below_drewN ?_ _ | refine Below.al ?_ (by first | with_reducible exact Nat.le_refl _ | omega | (simp; done) | (simp; omega) | exact Nat.le_refl _) _ | refine Below.setCell ?_ (by first | with_reducible exact Nat.le_refl _ | omega | (simp; done) | (simp; omega) | exact Nat.le_refl _) _)) (hb.mono (by first | with_reducible exact Nat.le_refl _ | omega | (simp; done) | (simp; omega) | exact Nat.le_refl _))
      have z20 : u19.heap.size ≤ u20.heap.size := hc.size
      replace B0c0 : u20.cell? ⟨u3.heap.size, 0, none⟩ = some (.slice aW nW cW) := (by rw [(bcell hc).1 _ _ B0s]; exact B0c0)
      replace B0s : u3.heap.size < u20.heap.size := (by omega)
      replace B1c0 : u20.cell? ⟨u6.heap.size, 0, none⟩ = some (.slice aG nG cG) := (by rw [(bcell hc).1 _ _ B1s]; exact B1c0)
      replace B1s : u6.heap.size < u20.heap.size := (by omega)
      have B2c0 : u20.cell? ⟨u19.heap.size, 0, none⟩ = some (.slice aE nE cE) := (by rw [(bcell hb).1 _ _ (by first | omega | (simp; done) | (simp; omega))]; first | with_reducible assumption | (go_simp; done) | assumption | (simp [World.cell?]; done))
      have B2p : u19.heap.size < u20.heap.size := World.block_lt_of_cell? _ _ B2c0
      have B2s : u19.heap.size < u20.heap.size := B2p
      replace DA0 : Hid (IntsA false (0) w.heap.size u20 a0 n0 c0 xs0) := hid (beInts DA0.out hc (by omega))
      replace DA1 : Hid (IntsA false (0) w.heap.size u20 a1 n1 c1 xs1) := hid (beInts DA1.out hc (by omega))
      replace DW : Hid (IntsA true (u2.heap.size) u3.heap.size u20 aW nW cW dxs) := hid (beInts DW.out hc (by omega))
      replace DM : Hid (IntsA true (u5.heap.size) u6.heap.size u20 aG nG cG (marks 1 (dxs).length)) := hid (beInts DM.out hc (by omega))
      replace Dh0 : Hid (IntsA true (u16.heap.size) u17.heap.size u20 ah0 nh0 ch0 xs0) := hid (beInts Dh0.out hc (by omega))
      replace Dh1 : Hid (IntsA true (u17.heap.size) u18.heap.size u20 ah1 nh1 ch1 xs1) := hid (beInts Dh1.out hc (by omega))
      replace DE : Hid (IntsA true (u18.heap.size) u19.heap.size u20 aE nE cE dxs) := hid (beInts DE.out hc (by omega))
      replace HW : Hid (Below w.heap.size w u20) := hid (Below.calm HW.out hc)
      clear hb hc
      go_wp2_with fail
      refine (heldK_Big aG nG cG dxs 1 _ (beInts (B := u20.heap.size) DM.out (by repeat (first | with_reducible assumption | with_reducible exact Below.refl _ _ | with_reducible refine below_drewN ?_ _ | with_reducible refine Below.al ?_ (by first | with_reducible exact Nat.le_refl _ | omega | (simp; done) | (simp; omega) | exact Nat.le_refl _) _ | with_reducible refine Below.setCell ?_ (by first | with_reducible exact Nat.le_refl _ | omega | (simp; done) | (simp; omega) | exact Nat.le_refl _) _ | assumption | exact Below.refl _ _ | refine below_drewN ?_ _ | refine Below.al ?_ (by first | with_reducible exact Nat.le_refl _ | omega | (simp; done) | (simp; omega) | exact Nat.le_refl _) _ | refine Below.setCell ?_ (by first | with_reducible exact Nat.le_refl _ | omega | (simp; done) | (simp; omega) | exact Nat.le_refl _) _)) (by first | with_reducible exact Nat.le_refl _ | omega | (simp; done) | (simp; omega) | exact Nat.le_refl _)) (by first | with_reducible exact Nat.le_refl _ | omega | (simp; done) | (simp; omega) | exact Nat.le_refl _) (by omega) (by omega) HSG.out).mono ?_
      rintro e u21 ⟨rfl, hb⟩
      rw [← HLG.out, ← HKM.out]
      have hc : Below u20.heap.size u20 u21 := Below.trans (by repeat (first | with_reducible assumption | with_reducible exact Below.refl _ _ | with_reducible refine below_drewN ?_ _ | with_reducible refine Below.al ?_ (by first | with_reducible exact Nat.le_refl _ | omega | (simp; done) | (simp; omega) | exact Nat.le_refl _) _ | with_reducible refine Below.setCell ?_ (by first | with_reducible exact Nat.le_refl _ | omega | (simp; done) | (simp; omega) | exact Nat.le_refl _) _ | assumption | exact Below.refl _ _ | refine below_drewN ?_ _ | refine Below.al ?_ (by first | with_reducible exact Nat.le_refl _ | omega | (simp; done) | (simp; omega) | exact Nat.le_refl _) _ | refine Below.setCell ?_ (by first | with_reducible exact Nat.le_refl _ | omega | (simp; done) | (simp; omega) | exact Nat.le_refl _) _)) (hb.mono (by first | with_reducible exact Nat.le_refl _ | omega | (simp; done) | (simp; omega) | exact Nat.le_refl _))
      have z21 : u20.heap.size ≤ u21.heap.size := hc.size
      replace B0c0 : u21.cell? ⟨u3.heap.size, 0, none⟩ = some (.slice aW nW cW) := (by rw [(bcell hc).1 _ _ B0s]; exact B0c0)
      replace B0s : u3.heap.size < u21.heap.size := (by omega)
      replace B1c0 : u21.cell? ⟨u6.heap.size, 0, none⟩ = some (.slice aG nG cG) := (by rw [(bcell hc).1 _ _ B1s]; exact B1c0)
      replace B1s : u6.heap.size < u21.heap.size := (by omega)
      replace B2c0 : u21.cell? ⟨u19.heap.size, 0, none⟩ = some (.slice aE nE cE) := (by rw [(bcell hc).1 _ _ B2s]; exact B2c0)
      replace B2s : u19.heap.size < u21.heap.size := (by omega)
      replace DA0 : Hid (IntsA false (0) w.heap.size u21 a0 n0 c0 xs0) := hid (beInts DA0.out hc (by omega))
      replace DA1 : Hid (IntsA false (0) w.heap.size u21 a1 n1 c1 xs1) := hid (beInts DA1.out hc (by omega))
      replace DW : Hid (IntsA true (u2.heap.size) u3.heap.size u21 aW nW cW dxs) := hid (beInts DW.out hc (by omega))
      replace DM : Hid (IntsA true (u5.heap.size) u6.heap.size u21 aG nG cG (marks 1 (dxs).length)) := hid (beInts DM.out hc (by omega))
      replace Dh0 : Hid (IntsA true (u16.heap.size) u17.heap.size u21 ah0 nh0 ch0 xs0) := hid (beInts Dh0.out hc (by omega))
      replace Dh1 : Hid (IntsA true (u17.heap.size) u18.heap.size u21 ah1 nh1 ch1 xs1) := hid (beInts Dh1.out hc (by omega))
      replace DE : Hid (IntsA true (u18.heap.size) u19.heap.size u21 aE nE cE dxs) := hid (beInts DE.out hc (by omega))
      replace HW : Hid (Below w.heap.size w u21) := hid (Below.calm HW.out hc)
      clear hb hc
      go_wp2_with fail
      go_ret
      exact ⟨rfl, HW.out⟩
    · go_enter Try.func3, Try.ntmps3
      go_wp2
      go_ret
      exact ⟨rfl, (by repeat (first | with_reducible assumption | with_reducible exact Below.refl _ _ | with_reducible refine below_drewN ?_ _ | with_reducible refine Below.al ?_ (by first | with_reducible exact Nat.le_refl _ | omega | (simp; done) | (simp; omega) | exact Nat.le_refl _) _ | with_reducible refine Below.setCell ?_ (by first | with_reducible exact Nat.le_refl _ | omega | (simp; done) | (simp; omega) | exact Nat.le_refl _) _ | assumption | exact Below.refl _ _ | refine below_drewN ?_ _ | refine Below.al ?_ (by first | with_reducible exact Nat.le_refl _ | omega | (simp; done) | (simp; omega) | exact Nat.le_refl _) _ | refine Below.setCell ?_ (by first | with_reducible exact Nat.le_refl _ | omega | (simp; done) | (simp; omega) | exact Nat.le_refl _) _))⟩
  · go_enter Try.func3, Try.ntmps3
    go_wp2
    go_ret
    exact ⟨rfl, (by repeat (first | with_reducible assumption | with_reducible exact Below.refl _ _ | with_reducible refine below_drewN ?_ _ | with_reducible refine Below.al ?_ (by first | with_reducible exact Nat.le_refl _ | omega | (simp; done) | (simp; omega) | exact Nat.le_refl _) _ | with_reducible refine Below.setCell ?_ (by first | with_reducible exact Nat.le_refl _ | omega | (simp; done) | (simp; omega) | exact Nat.le_refl _) _ | assumption | exact Below.refl _ _ | refine below_drewN ?_ _ | refine Below.al ?_ (by first | with_reducible exact Nat.le_refl _ | omega | (simp; done) | (simp; omega) | exact Nat.le_refl _) _ | refine Below.setCell ?_ (by first | with_reducible exact Nat.le_refl _ | omega | (simp; done) | (simp; omega) | exact Nat.le_refl _) _))⟩
end Go.Proofs.Ytnipfgmldhepkaa
