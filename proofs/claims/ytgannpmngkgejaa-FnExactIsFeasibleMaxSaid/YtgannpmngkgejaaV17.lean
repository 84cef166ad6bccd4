/- The walk of the law FnExactIsFeasibleMax: it returns true and changes nothing that was there. Written by lawwalk.py. -/
import Derived.Test.YtgannpmngkgejaaR13
namespace Go.Proofs.Ytgannpmngkgejaa
set_option linter.unusedSimpArgs false
set_option linter.unusedVariables false
open Go.RowKit
set_option maxHeartbeats 4000000 in
theorem law_FnExactIsFeasibleMax (a0 : Option Addr) (n0 : Nat) (c0 : Nat) (xs0 : List (List RatD)) (ba0 : Option Addr) (bn0 : Nat) (bc0 : Nat) (bs0 : List RatD) (ca0 : Option Addr) (cn0 : Nat) (cc0 : Nat) (cs0 : List RatD) (a1 : Option Addr) (n1 : Nat) (c1 : Nat) (xs1 : List RatD) (w : World) (hD0 : LPA false (0) w.heap.size w a0 n0 c0 xs0 ba0 bn0 bc0 bs0 ca0 cn0 cc0 cs0) (hD1 : RatsA false (0) w.heap.size w a1 n1 c1 xs1) :
    Calls Try.prog 5 #[lpV a0 n0 c0 ba0 bn0 bc0 ca0 cn0 cc0, .slice a1 n1 c1] w (Leaves w (.bool true)) := by
  have DA0 := hid hD0; clear hD0
  have DA1 := hid hD1; clear hD1
  go_enter Try.func5, Try.ntmps5
  go_wp2_with fail
  refine (szK_LP a0 n0 c0 xs0 ba0 bn0 bc0 bs0 ca0 cn0 cc0 cs0 1048576 _ (beLP (B := w.heap.size) DA0.out (by repeat (first | assumption | exact Below.refl _ _ | refine below_drewN ?_ _ | refine Below.al ?_ (by first | exact Nat.le_refl _ | omega | (simp; done) | (simp; omega)) _ | refine Below.setCell ?_ (by first | exact Nat.le_refl _ | omega | (simp; done) | (simp; omega)) _)) (by first | exact Nat.le_refl _ | omega | (simp; done) | (simp; omega))) (by first | exact Nat.le_refl _ | omega | (simp; done) | (simp; omega)) (by omega) (by omega)).mono ?_
  rintro e u1 ⟨rfl, hb⟩
  have hc : Below w.heap.size w u1 := Below.trans (by repeat (first | assumption | exact Below.refl _ _ | refine below_drewN ?_ _ | refine Below.al ?_ (by first | exact Nat.le_refl _ | omega | (simp; done) | (simp; omega)) _ | refine Below.setCell ?_ (by first | exact Nat.le_refl _ | omega | (simp; done) | (simp; omega)) _)) (hb.mono (by first | exact Nat.le_refl _ | omega | (simp; done) | (simp; omega)))
  have z1 : w.heap.size ≤ u1.heap.size := hc.size
  have B0c0 : u1.cell? ⟨w.heap.size, 0, none⟩ = some (.slice a0 n0 c0) := (by rw [(bcell hb).1 _ _ (by first | omega | (simp; done) | (simp; omega))]; first | assumption | (go_simp; done) | (simp [World.cell?]; done))
  have B0c1 : u1.cell? ⟨w.heap.size, 1, none⟩ = some (.slice ba0 bn0 bc0) := (by rw [(bcell hb).1 _ _ (by first | omega | (simp; done) | (simp; omega))]; first | assumption | (go_simp; done) | (simp [World.cell?]; done))
  have B0c2 : u1.cell? ⟨w.heap.size, 2, none⟩ = some (.slice ca0 cn0 cc0) := (by rw [(bcell hb).1 _ _ (by first | omega | (simp; done) | (simp; omega))]; first | assumption | (go_simp; done) | (simp [World.cell?]; done))
  have B0p : w.heap.size < u1.heap.size := World.block_lt_of_cell? _ _ B0c0
  have B0s : w.heap.size < u1.heap.size := B0p
  replace DA0 : Hid (LPA false (0) w.heap.size u1 a0 n0 c0 xs0 ba0 bn0 bc0 bs0 ca0 cn0 cc0 cs0) := hid (beLP DA0.out hc (by omega))
  replace DA1 : Hid (RatsA false (0) w.heap.size u1 a1 n1 c1 xs1) := hid (beRats DA1.out hc (by omega))
  have HW := hid hc
  clear hb hc
  by_cases hsz0 : (szLP xs0 bs0 cs0 : Int) ≤ 1048576
  · rw [szI_yes hsz0]
    obtain ⟨left0, hleft0⟩ : ∃ l, l = 1048576 - (szLP xs0 bs0 cs0 : Int) := ⟨_, rfl⟩
    rw [← hleft0]
    have hlo0 : 0 ≤ left0 := by omega
    have hhi0 : left0 ≤ 1048576 := by omega
    have HS0 : Hid (szLP xs0 bs0 cs0 ≤ 1048576) := hid (by omega)
    have HQ0 := hid (And.intro hsz0 hleft0); clear hsz0 hleft0
    go_wp2_with fail
    refine (szRats a1 n1 c1 xs1 left0 _ (beRats (B := u1.heap.size) DA1.out (by repeat (first | assumption | exact Below.refl _ _ | refine below_drewN ?_ _ | refine Below.al ?_ (by first | exact Nat.le_refl _ | omega | (simp; done) | (simp; omega)) _ | refine Below.setCell ?_ (by first | exact Nat.le_refl _ | omega | (simp; done) | (simp; omega)) _)) (by first | exact Nat.le_refl _ | omega | (simp; done) | (simp; omega))) (by omega) (by omega)).mono ?_
    rintro e u2 hg; obtain ⟨rfl, hb⟩ := Gives.leaves hg; clear hg
    have hc : Below u1.heap.size u1 u2 := Below.trans (by repeat (first | assumption | exact Below.refl _ _ | refine below_drewN ?_ _ | refine Below.al ?_ (by first | exact Nat.le_refl _ | omega | (simp; done) | (simp; omega)) _ | refine Below.setCell ?_ (by first | exact Nat.le_refl _ | omega | (simp; done) | (simp; omega)) _)) (hb.mono (by first | exact Nat.le_refl _ | omega | (simp; done) | (simp; omega)))
    have z2 : u1.heap.size ≤ u2.heap.size := hc.size
    replace B0c0 : u2.cell? ⟨w.heap.size, 0, none⟩ = some (.slice a0 n0 c0) := (by rw [(bcell hc).1 _ _ B0s]; exact B0c0)
    replace B0c1 : u2.cell? ⟨w.heap.size, 1, none⟩ = some (.slice ba0 bn0 bc0) := (by rw [(bcell hc).1 _ _ B0s]; exact B0c1)
    replace B0c2 : u2.cell? ⟨w.heap.size, 2, none⟩ = some (.slice ca0 cn0 cc0) := (by rw [(bcell hc).1 _ _ B0s]; exact B0c2)
    replace B0s : w.heap.size < u2.heap.size := (by omega)
    replace DA0 : Hid (LPA false (0) w.heap.size u2 a0 n0 c0 xs0 ba0 bn0 bc0 bs0 ca0 cn0 cc0 cs0) := hid (beLP DA0.out hc (by omega))
    replace DA1 : Hid (RatsA false (0) w.heap.size u2 a1 n1 c1 xs1) := hid (beRats DA1.out hc (by omega))
    replace HW : Hid (Below w.heap.size w u2) := hid (Below.calm HW.out hc)
    clear hb hc
    by_cases hsz1 : (xs1.length : Int) ≤ left0
    · rw [szI_yes hsz1]
      obtain ⟨left1, hleft1⟩ : ∃ l, l = left0 - (xs1.length : Int) := ⟨_, rfl⟩
      rw [← hleft1]
      have hlo1 : 0 ≤ left1 := by omega
      have hhi1 : left1 ≤ 1048576 := by omega
      have HS1 : Hid (xs1.length ≤ 1048576) := hid (by omega)
      have HQ1 := hid (And.intro hsz1 hleft1); clear hsz1 hleft1
      go_wp2_with fail
      refine (toK_LP a0 n0 c0 xs0 ba0 bn0 bc0 bs0 ca0 cn0 cc0 cs0 _ (beLP (B := u2.heap.size) DA0.out (by repeat (first | assumption | exact Below.refl _ _ | refine below_drewN ?_ _ | refine Below.al ?_ (by first | exact Nat.le_refl _ | omega | (simp; done) | (simp; omega)) _ | refine Below.setCell ?_ (by first | exact Nat.le_refl _ | omega | (simp; done) | (simp; omega)) _)) (by first | exact Nat.le_refl _ | omega | (simp; done) | (simp; omega))) (by first | exact Nat.le_refl _ | omega | (simp; done) | (simp; omega)) HS0.out).mono ?_
      rintro e u3 ⟨ap0, np0, cp0, bap0, bnp0, bcp0, cap0, cnp0, ccp0, rfl, ho, hb⟩
      have hc : Below u2.heap.size u2 u3 := Below.trans (by repeat (first | assumption | exact Below.refl _ _ | refine below_drewN ?_ _ | refine Below.al ?_ (by first | exact Nat.le_refl _ | omega | (simp; done) | (simp; omega)) _ | refine Below.setCell ?_ (by first | exact Nat.le_refl _ | omega | (simp; done) | (simp; omega)) _)) (hb.mono (by first | exact Nat.le_refl _ | omega | (simp; done) | (simp; omega)))
      have z3 : u2.heap.size ≤ u3.heap.size := hc.size
      replace B0c0 : u3.cell? ⟨w.heap.size, 0, none⟩ = some (.slice a0 n0 c0) := (by rw [(bcell hc).1 _ _ B0s]; exact B0c0)
      replace B0c1 : u3.cell? ⟨w.heap.size, 1, none⟩ = some (.slice ba0 bn0 bc0) := (by rw [(bcell hc).1 _ _ B0s]; exact B0c1)
      replace B0c2 : u3.cell? ⟨w.heap.size, 2, none⟩ = some (.slice ca0 cn0 cc0) := (by rw [(bcell hc).1 _ _ B0s]; exact B0c2)
      replace B0s : w.heap.size < u3.heap.size := (by omega)
      replace DA0 : Hid (LPA false (0) w.heap.size u3 a0 n0 c0 xs0 ba0 bn0 bc0 bs0 ca0 cn0 cc0 cs0) := hid (beLP DA0.out hc (by omega))
      replace DA1 : Hid (RatsA false (0) w.heap.size u3 a1 n1 c1 xs1) := hid (beRats DA1.out hc (by omega))
      replace HW : Hid (Below w.heap.size w u3) := hid (Below.calm HW.out hc)
      have Dp0 : Hid (LPA true (u2.heap.size) u3.heap.size u3 ap0 np0 cp0 xs0 bap0 bnp0 bcp0 bs0 cap0 cnp0 ccp0 cs0) := hid (wdLP ho (by first | exact Nat.le_refl _ | omega | (simp; done) | (simp; omega)))
      clear ho hb hc
      go_wp2_with fail
      refine (toRats a1 n1 c1 xs1 _ (beRats (B := u3.heap.size) DA1.out (by repeat (first | assumption | exact Below.refl _ _ | refine below_drewN ?_ _ | refine Below.al ?_ (by first | exact Nat.le_refl _ | omega | (simp; done) | (simp; omega)) _ | refine Below.setCell ?_ (by first | exact Nat.le_refl _ | omega | (simp; done) | (simp; omega)) _)) (by first | exact Nat.le_refl _ | omega | (simp; done) | (simp; omega))) (by first | exact Nat.le_refl _ | omega | (simp; done) | (simp; omega)) HS1.out).mono ?_
      rintro e u4 ⟨ap1, np1, cp1, rfl, ho, hb⟩
      have hc : Below u3.heap.size u3 u4 := Below.trans (by repeat (first | assumption | exact Below.refl _ _ | refine below_drewN ?_ _ | refine Below.al ?_ (by first | exact Nat.le_refl _ | omega | (simp; done) | (simp; omega)) _ | refine Below.setCell ?_ (by first | exact Nat.le_refl _ | omega | (simp; done) | (simp; omega)) _)) (hb.mono (by first | exact Nat.le_refl _ | omega | (simp; done) | (simp; omega)))
      have z4 : u3.heap.size ≤ u4.heap.size := hc.size
      replace B0c0 : u4.cell? ⟨w.heap.size, 0, none⟩ = some (.slice a0 n0 c0) := (by rw [(bcell hc).1 _ _ B0s]; exact B0c0)
      replace B0c1 : u4.cell? ⟨w.heap.size, 1, none⟩ = some (.slice ba0 bn0 bc0) := (by rw [(bcell hc).1 _ _ B0s]; exact B0c1)
      replace B0c2 : u4.cell? ⟨w.heap.size, 2, none⟩ = some (.slice ca0 cn0 cc0) := (by rw [(bcell hc).1 _ _ B0s]; exact B0c2)
      replace B0s : w.heap.size < u4.heap.size := (by omega)
      replace DA0 : Hid (LPA false (0) w.heap.size u4 a0 n0 c0 xs0 ba0 bn0 bc0 bs0 ca0 cn0 cc0 cs0) := hid (beLP DA0.out hc (by omega))
      replace DA1 : Hid (RatsA false (0) w.heap.size u4 a1 n1 c1 xs1) := hid (beRats DA1.out hc (by omega))
      replace Dp0 : Hid (LPA true (u2.heap.size) u3.heap.size u4 ap0 np0 cp0 xs0 bap0 bnp0 bcp0 bs0 cap0 cnp0 ccp0 cs0) := hid (beLP Dp0.out hc (by omega))
      replace HW : Hid (Below w.heap.size w u4) := hid (Below.calm HW.out hc)
      have Dp1 : Hid (RatsA true (u3.heap.size) u4.heap.size u4 ap1 np1 cp1 xs1) := hid (wdRats ho (by first | exact Nat.le_refl _ | omega | (simp; done) | (simp; omega)))
      clear ho hb hc
      obtain ⟨r0, hr0⟩ : ∃ r : Bool, feasB xs0 bs0 cs0 xs1 (-1) = r := ⟨_, rfl⟩
      have hne0 : ((r0 : Bool) != r0) = false := by simp
      have HR0 := hid hr0; clear hr0
      go_wp2_with fail
      refine (specFeasMax ap0 np0 cp0 xs0 bap0 bnp0 bcp0 bs0 cap0 cnp0 ccp0 cs0 ap1 np1 cp1 xs1 _ (beLP (B := u4.heap.size) Dp0.out (by repeat (first | assumption | exact Below.refl _ _ | refine below_drewN ?_ _ | refine Below.al ?_ (by first | exact Nat.le_refl _ | omega | (simp; done) | (simp; omega)) _ | refine Below.setCell ?_ (by first | exact Nat.le_refl _ | omega | (simp; done) | (simp; omega)) _)) (by first | exact Nat.le_refl _ | omega | (simp; done) | (simp; omega))) (by first | exact Nat.le_refl _ | omega | (simp; done) | (simp; omega)) (beRats (B := u4.heap.size) Dp1.out (by repeat (first | assumption | exact Below.refl _ _ | refine below_drewN ?_ _ | refine Below.al ?_ (by first | exact Nat.le_refl _ | omega | (simp; done) | (simp; omega)) _ | refine Below.setCell ?_ (by first | exact Nat.le_refl _ | omega | (simp; done) | (simp; omega)) _)) (by first | exact Nat.le_refl _ | omega | (simp; done) | (simp; omega))) (by first | exact Nat.le_refl _ | omega | (simp; done) | (simp; omega))).mono ?_
      rintro e u5 ⟨rfl, hb⟩
      rw [HR0.out]
      have hc : Below u4.heap.size u4 u5 := Below.trans (by repeat (first | assumption | exact Below.refl _ _ | refine below_drewN ?_ _ | refine Below.al ?_ (by first | exact Nat.le_refl _ | omega | (simp; done) | (simp; omega)) _ | refine Below.setCell ?_ (by first | exact Nat.le_refl _ | omega | (simp; done) | (simp; omega)) _)) (hb.mono (by first | exact Nat.le_refl _ | omega | (simp; done) | (simp; omega)))
      have z5 : u4.heap.size ≤ u5.heap.size := hc.size
      replace B0c0 : u5.cell? ⟨w.heap.size, 0, none⟩ = some (.slice a0 n0 c0) := (by rw [(bcell hc).1 _ _ B0s]; exact B0c0)
      replace B0c1 : u5.cell? ⟨w.heap.size, 1, none⟩ = some (.slice ba0 bn0 bc0) := (by rw [(bcell hc).1 _ _ B0s]; exact B0c1)
      replace B0c2 : u5.cell? ⟨w.heap.size, 2, none⟩ = some (.slice ca0 cn0 cc0) := (by rw [(bcell hc).1 _ _ B0s]; exact B0c2)
      replace B0s : w.heap.size < u5.heap.size := (by omega)
      replace DA0 : Hid (LPA false (0) w.heap.size u5 a0 n0 c0 xs0 ba0 bn0 bc0 bs0 ca0 cn0 cc0 cs0) := hid (beLP DA0.out hc (by omega))
      replace DA1 : Hid (RatsA false (0) w.heap.size u5 a1 n1 c1 xs1) := hid (beRats DA1.out hc (by omega))
      replace Dp0 : Hid (LPA true (u2.heap.size) u3.heap.size u5 ap0 np0 cp0 xs0 bap0 bnp0 bcp0 bs0 cap0 cnp0 ccp0 cs0) := hid (beLP Dp0.out hc (by omega))
      replace Dp1 : Hid (RatsA true (u3.heap.size) u4.heap.size u5 ap1 np1 cp1 xs1) := hid (beRats Dp1.out hc (by omega))
      replace HW : Hid (Below w.heap.size w u5) := hid (Below.calm HW.out hc)
      clear hb hc
      go_wp2_with fail
      refine (toK_LP a0 n0 c0 xs0 ba0 bn0 bc0 bs0 ca0 cn0 cc0 cs0 _ (beLP (B := u5.heap.size) DA0.out (by repeat (first | assumption | exact Below.refl _ _ | refine below_drewN ?_ _ | refine Below.al ?_ (by first | exact Nat.le_refl _ | omega | (simp; done) | (simp; omega)) _ | refine Below.setCell ?_ (by first | exact Nat.le_refl _ | omega | (simp; done) | (simp; omega)) _)) (by first | exact Nat.le_refl _ | omega | (simp; done) | (simp; omega))) (by first | exact Nat.le_refl _ | omega | (simp; done) | (simp; omega)) HS0.out).mono ?_
      rintro e u6 ⟨ax0, nx0, cx0, bax0, bnx0, bcx0, cax0, cnx0, ccx0, rfl, ho, hb⟩
      have hc : Below u5.heap.size u5 u6 := Below.trans (by repeat (first | assumption | exact Below.refl _ _ | refine below_drewN ?_ _ | refine Below.al ?_ (by first | exact Nat.le_refl _ | omega | (simp; done) | (simp; omega)) _ | refine Below.setCell ?_ (by first | exact Nat.le_refl _ | omega | (simp; done) | (simp; omega)) _)) (hb.mono (by first | exact Nat.le_refl _ | omega | (simp; done) | (simp; omega)))
      have z6 : u5.heap.size ≤ u6.heap.size := hc.size
      replace B0c0 : u6.cell? ⟨w.heap.size, 0, none⟩ = some (.slice a0 n0 c0) := (by rw [(bcell hc).1 _ _ B0s]; exact B0c0)
      replace B0c1 : u6.cell? ⟨w.heap.size, 1, none⟩ = some (.slice ba0 bn0 bc0) := (by rw [(bcell hc).1 _ _ B0s]; exact B0c1)
      replace B0c2 : u6.cell? ⟨w.heap.size, 2, none⟩ = some (.slice ca0 cn0 cc0) := (by rw [(bcell hc).1 _ _ B0s]; exact B0c2)
      replace B0s : w.heap.size < u6.heap.size := (by omega)
      replace DA0 : Hid (LPA false (0) w.heap.size u6 a0 n0 c0 xs0 ba0 bn0 bc0 bs0 ca0 cn0 cc0 cs0) := hid (beLP DA0.out hc (by omega))
      replace DA1 : Hid (RatsA false (0) w.heap.size u6 a1 n1 c1 xs1) := hid (beRats DA1.out hc (by omega))
      replace HW : Hid (Below w.heap.size w u6) := hid (Below.calm HW.out hc)
      have Dx0 : Hid (LPA true (u5.heap.size) u6.heap.size u6 ax0 nx0 cx0 xs0 bax0 bnx0 bcx0 bs0 cax0 cnx0 ccx0 cs0) := hid (wdLP ho (by first | exact Nat.le_refl _ | omega | (simp; done) | (simp; omega)))
      clear ho hb hc
      go_wp2_with fail
      refine (toRats a1 n1 c1 xs1 _ (beRats (B := u6.heap.size) DA1.out (by repeat (first | assumption | exact Below.refl _ _ | refine below_drewN ?_ _ | refine Below.al ?_ (by first | exact Nat.le_refl _ | omega | (simp; done) | (simp; omega)) _ | refine Below.setCell ?_ (by first | exact Nat.le_refl _ | omega | (simp; done) | (simp; omega)) _)) (by first | exact Nat.le_refl _ | omega | (simp; done) | (simp; omega))) (by first | exact Nat.le_refl _ | omega | (simp; done) | (simp; omega)) HS1.out).mono ?_
      rintro e u7 ⟨ax1, nx1, cx1, rfl, ho, hb⟩
      have hc : Below u6.heap.size u6 u7 := Below.trans (by repeat (first | assumption | exact Below.refl _ _ | refine below_drewN ?_ _ | refine Below.al ?_ (by first | exact Nat.le_refl _ | omega | (simp; done) | (simp; omega)) _ | refine Below.setCell ?_ (by first | exact Nat.le_refl _ | omega | (simp; done) | (simp; omega)) _)) (hb.mono (by first | exact Nat.le_refl _ | omega | (simp; done) | (simp; omega)))
      have z7 : u6.heap.size ≤ u7.heap.size := hc.size
      replace B0c0 : u7.cell? ⟨w.heap.size, 0, none⟩ = some (.slice a0 n0 c0) := (by rw [(bcell hc).1 _ _ B0s]; exact B0c0)
      replace B0c1 : u7.cell? ⟨w.heap.size, 1, none⟩ = some (.slice ba0 bn0 bc0) := (by rw [(bcell hc).1 _ _ B0s]; exact B0c1)
      replace B0c2 : u7.cell? ⟨w.heap.size, 2, none⟩ = some (.slice ca0 cn0 cc0) := (by rw [(bcell hc).1 _ _ B0s]; exact B0c2)
      replace B0s : w.heap.size < u7.heap.size := (by omega)
      have B1c0 : u7.cell? ⟨u6.heap.size, 0, none⟩ = some (.slice ax0 nx0 cx0) := (by rw [(bcell hb).1 _ _ (by first | omega | (simp; done) | (simp; omega))]; first | assumption | (go_simp; done) | (simp [World.cell?]; done))
      have B1c1 : u7.cell? ⟨u6.heap.size, 1, none⟩ = some (.slice bax0 bnx0 bcx0) := (by rw [(bcell hb).1 _ _ (by first | omega | (simp; done) | (simp; omega))]; first | assumption | (go_simp; done) | (simp [World.cell?]; done))
      have B1c2 : u7.cell? ⟨u6.heap.size, 2, none⟩ = some (.slice cax0 cnx0 ccx0) := (by rw [(bcell hb).1 _ _ (by first | omega | (simp; done) | (simp; omega))]; first | assumption | (go_simp; done) | (simp [World.cell?]; done))
      have B1p : u6.heap.size < u7.heap.size := World.block_lt_of_cell? _ _ B1c0
      have B1s : u6.heap.size < u7.heap.size := B1p
      replace DA0 : Hid (LPA false (0) w.heap.size u7 a0 n0 c0 xs0 ba0 bn0 bc0 bs0 ca0 cn0 cc0 cs0) := hid (beLP DA0.out hc (by omega))
      replace DA1 : Hid (RatsA false (0) w.heap.size u7 a1 n1 c1 xs1) := hid (beRats DA1.out hc (by omega))
      replace Dx0 : Hid (LPA true (u5.heap.size) u6.heap.size u7 ax0 nx0 cx0 xs0 bax0 bnx0 bcx0 bs0 cax0 cnx0 ccx0 cs0) := hid (beLP Dx0.out hc (by omega))
      replace HW : Hid (Below w.heap.size w u7) := hid (Below.calm HW.out hc)
      have Dx1 : Hid (RatsA true (u6.heap.size + 1) u7.heap.size u7 ax1 nx1 cx1 xs1) := hid (wdRats ho (by first | exact Nat.le_refl _ | omega | (simp; done) | (simp; omega)))
      clear ho hb hc
      go_wp2_with fail
      refine (implFeasMax ax0 nx0 cx0 xs0 bax0 bnx0 bcx0 bs0 cax0 cnx0 ccx0 cs0 ax1 nx1 cx1 xs1 _ (beLP (B := u7.heap.size) Dx0.out (by repeat (first | assumption | exact Below.refl _ _ | refine below_drewN ?_ _ | refine Below.al ?_ (by first | exact Nat.le_refl _ | omega | (simp; done) | (simp; omega)) _ | refine Below.setCell ?_ (by first | exact Nat.le_refl _ | omega | (simp; done) | (simp; omega)) _)) (by first | exact Nat.le_refl _ | omega | (simp; done) | (simp; omega))) (by first | exact Nat.le_refl _ | omega | (simp; done) | (simp; omega)) (beRats (B := u7.heap.size) Dx1.out (by repeat (first | assumption | exact Below.refl _ _ | refine below_drewN ?_ _ | refine Below.al ?_ (by first | exact Nat.le_refl _ | omega | (simp; done) | (simp; omega)) _ | refine Below.setCell ?_ (by first | exact Nat.le_refl _ | omega | (simp; done) | (simp; omega)) _)) (by first | exact Nat.le_refl _ | omega | (simp; done) | (simp; omega))) (by first | exact Nat.le_refl _ | omega | (simp; done) | (simp; omega))).mono ?_
      rintro e u8 ⟨rfl, hb⟩
      rw [HR0.out]
      have hc : Below u7.heap.size u7 u8 := Below.trans (by repeat (first | assumption | exact Below.refl _ _ | refine below_drewN ?_ _ | refine Below.al ?_ (by first | exact Nat.le_refl _ | omega | (simp; done) | (simp; omega)) _ | refine Below.setCell ?_ (by first | exact Nat.le_refl _ | omega | (simp; done) | (simp; omega)) _)) (hb.mono (by first | exact Nat.le_refl _ | omega | (simp; done) | (simp; omega)))
      have z8 : u7.heap.size ≤ u8.heap.size := hc.size
      replace B0c0 : u8.cell? ⟨w.heap.size, 0, none⟩ = some (.slice a0 n0 c0) := (by rw [(bcell hc).1 _ _ B0s]; exact B0c0)
      replace B0c1 : u8.cell? ⟨w.heap.size, 1, none⟩ = some (.slice ba0 bn0 bc0) := (by rw [(bcell hc).1 _ _ B0s]; exact B0c1)
      replace B0c2 : u8.cell? ⟨w.heap.size, 2, none⟩ = some (.slice ca0 cn0 cc0) := (by rw [(bcell hc).1 _ _ B0s]; exact B0c2)
      replace B0s : w.heap.size < u8.heap.size := (by omega)
      replace B1c0 : u8.cell? ⟨u6.heap.size, 0, none⟩ = some (.slice ax0 nx0 cx0) := (by rw [(bcell hc).1 _ _ B1s]; exact B1c0)
      replace B1c1 : u8.cell? ⟨u6.heap.size, 1, none⟩ = some (.slice bax0 bnx0 bcx0) := (by rw [(bcell hc).1 _ _ B1s]; exact B1c1)
      replace B1c2 : u8.cell? ⟨u6.heap.size, 2, none⟩ = some (.slice cax0 cnx0 ccx0) := (by rw [(bcell hc).1 _ _ B1s]; exact B1c2)
      replace B1s : u6.heap.size < u8.heap.size := (by omega)
      replace DA0 : Hid (LPA false (0) w.heap.size u8 a0 n0 c0 xs0 ba0 bn0 bc0 bs0 ca0 cn0 cc0 cs0) := hid (beLP DA0.out hc (by omega))
      replace DA1 : Hid (RatsA false (0) w.heap.size u8 a1 n1 c1 xs1) := hid (beRats DA1.out hc (by omega))
      replace Dx0 : Hid (LPA true (u5.heap.size) u6.heap.size u8 ax0 nx0 cx0 xs0 bax0 bnx0 bcx0 bs0 cax0 cnx0 ccx0 cs0) := hid (beLP Dx0.out hc (by omega))
      replace Dx1 : Hid (RatsA true (u6.heap.size + 1) u7.heap.size u8 ax1 nx1 cx1 xs1) := hid (beRats Dx1.out hc (by omega))
      replace HW : Hid (Below w.heap.size w u8) := hid (Below.calm HW.out hc)
      clear hb hc
      go_wp2_with fail
      go_region_held3 (fun w' => w'.cell? ⟨w.heap.size, 0, none⟩ = some (.slice a0 n0 c0) ∧ w'.cell? ⟨w.heap.size, 1, none⟩ = some (.slice ba0 bn0 bc0) ∧ w'.cell? ⟨w.heap.size, 2, none⟩ = some (.slice ca0 cn0 cc0) ∧ w'.cell? ⟨u6.heap.size, 0, none⟩ = some (.slice ax0 nx0 cx0) ∧ w'.cell? ⟨u6.heap.size, 1, none⟩ = some (.slice bax0 bnx0 bcx0) ∧ w'.cell? ⟨u6.heap.size, 2, none⟩ = some (.slice cax0 cnx0 ccx0)) (refine ⟨?_, ?_, ?_, ?_, ?_, ?_⟩ <;> assumption)
        (first | (go_at_call 8; refine (toK_LP a0 n0 c0 xs0 ba0 bn0 bc0 bs0 ca0 cn0 cc0 cs0 _ (beLP (B := u8.heap.size) DA0.out (by repeat (first | assumption | exact Below.refl _ _ | refine below_drewN ?_ _ | refine Below.al ?_ (by first | exact Nat.le_refl _ | omega | (simp; done) | (simp; omega)) _ | refine Below.setCell ?_ (by first | exact Nat.le_refl _ | omega | (simp; done) | (simp; omega)) _)) (by first | exact Nat.le_refl _ | omega | (simp; done) | (simp; omega))) (by first | exact Nat.le_refl _ | omega | (simp; done) | (simp; omega)) HS0.out).mono ?_; rintro e u9 ⟨ay0, ny0, cy0, bay0, bny0, bcy0, cay0, cny0, ccy0, rfl, ho, hb⟩; have hc : Below u8.heap.size u8 u9 := Below.trans (by repeat (first | assumption | exact Below.refl _ _ | refine below_drewN ?_ _ | refine Below.al ?_ (by first | exact Nat.le_refl _ | omega | (simp; done) | (simp; omega)) _ | refine Below.setCell ?_ (by first | exact Nat.le_refl _ | omega | (simp; done) | (simp; omega)) _)) (hb.mono (by first | exact Nat.le_refl _ | omega | (simp; done) | (simp; omega))); have z9 : u8.heap.size ≤ u9.heap.size := hc.size; replace B0c0 : u9.cell? ⟨w.heap.size, 0, none⟩ = some (.slice a0 n0 c0) := (by rw [(bcell hc).1 _ _ B0s]; exact B0c0); replace B0c1 : u9.cell? ⟨w.heap.size, 1, none⟩ = some (.slice ba0 bn0 bc0) := (by rw [(bcell hc).1 _ _ B0s]; exact B0c1); replace B0c2 : u9.cell? ⟨w.heap.size, 2, none⟩ = some (.slice ca0 cn0 cc0) := (by rw [(bcell hc).1 _ _ B0s]; exact B0c2); replace B0s : w.heap.size < u9.heap.size := (by omega); replace B1c0 : u9.cell? ⟨u6.heap.size, 0, none⟩ = some (.slice ax0 nx0 cx0) := (by rw [(bcell hc).1 _ _ B1s]; exact B1c0); replace B1c1 : u9.cell? ⟨u6.heap.size, 1, none⟩ = some (.slice bax0 bnx0 bcx0) := (by rw [(bcell hc).1 _ _ B1s]; exact B1c1); replace B1c2 : u9.cell? ⟨u6.heap.size, 2, none⟩ = some (.slice cax0 cnx0 ccx0) := (by rw [(bcell hc).1 _ _ B1s]; exact B1c2); replace B1s : u6.heap.size < u9.heap.size := (by omega); replace DA0 : Hid (LPA false (0) w.heap.size u9 a0 n0 c0 xs0 ba0 bn0 bc0 bs0 ca0 cn0 cc0 cs0) := hid (beLP DA0.out hc (by omega)); replace DA1 : Hid (RatsA false (0) w.heap.size u9 a1 n1 c1 xs1) := hid (beRats DA1.out hc (by omega)); replace Dx0 : Hid (LPA true (u5.heap.size) u6.heap.size u9 ax0 nx0 cx0 xs0 bax0 bnx0 bcx0 bs0 cax0 cnx0 ccx0 cs0) := hid (beLP Dx0.out hc (by omega)); replace Dx1 : Hid (RatsA true (u6.heap.size + 1) u7.heap.size u9 ax1 nx1 cx1 xs1) := hid (beRats Dx1.out hc (by omega)); replace HW : Hid (Below w.heap.size w u9) := hid (Below.calm HW.out hc); have Dy0 : Hid (LPA true (u8.heap.size) u9.heap.size u9 ay0 ny0 cy0 xs0 bay0 bny0 bcy0 bs0 cay0 cny0 ccy0 cs0) := hid (wdLP ho (by first | exact Nat.le_refl _ | omega | (simp; done) | (simp; omega))); clear ho hb hc) | (go_at_call 10; refine (eqK_LP ax0 nx0 cx0 xs0 bax0 bnx0 bcx0 bs0 cax0 cnx0 ccx0 cs0 ay0 ny0 cy0 bay0 bny0 bcy0 cay0 cny0 ccy0 _ (beLP (B := u9.heap.size) Dx0.out (by repeat (first | assumption | exact Below.refl _ _ | refine below_drewN ?_ _ | refine Below.al ?_ (by first | exact Nat.le_refl _ | omega | (simp; done) | (simp; omega)) _ | refine Below.setCell ?_ (by first | exact Nat.le_refl _ | omega | (simp; done) | (simp; omega)) _)) (by first | exact Nat.le_refl _ | omega | (simp; done) | (simp; omega))) (by first | exact Nat.le_refl _ | omega | (simp; done) | (simp; omega)) (beLP (B := u9.heap.size) Dy0.out (by repeat (first | assumption | exact Below.refl _ _ | refine below_drewN ?_ _ | refine Below.al ?_ (by first | exact Nat.le_refl _ | omega | (simp; done) | (simp; omega)) _ | refine Below.setCell ?_ (by first | exact Nat.le_refl _ | omega | (simp; done) | (simp; omega)) _)) (by first | exact Nat.le_refl _ | omega | (simp; done) | (simp; omega))) (by first | exact Nat.le_refl _ | omega | (simp; done) | (simp; omega))).mono ?_; rintro e u10 ⟨rfl, hb⟩; have hc : Below u9.heap.size u9 u10 := Below.trans (by repeat (first | assumption | exact Below.refl _ _ | refine below_drewN ?_ _ | refine Below.al ?_ (by first | exact Nat.le_refl _ | omega | (simp; done) | (simp; omega)) _ | refine Below.setCell ?_ (by first | exact Nat.le_refl _ | omega | (simp; done) | (simp; omega)) _)) (hb.mono (by first | exact Nat.le_refl _ | omega | (simp; done) | (simp; omega))); have z10 : u9.heap.size ≤ u10.heap.size := hc.size; replace B0c0 : u10.cell? ⟨w.heap.size, 0, none⟩ = some (.slice a0 n0 c0) := (by rw [(bcell hc).1 _ _ B0s]; exact B0c0); replace B0c1 : u10.cell? ⟨w.heap.size, 1, none⟩ = some (.slice ba0 bn0 bc0) := (by rw [(bcell hc).1 _ _ B0s]; exact B0c1); replace B0c2 : u10.cell? ⟨w.heap.size, 2, none⟩ = some (.slice ca0 cn0 cc0) := (by rw [(bcell hc).1 _ _ B0s]; exact B0c2); replace B0s : w.heap.size < u10.heap.size := (by omega); replace B1c0 : u10.cell? ⟨u6.heap.size, 0, none⟩ = some (.slice ax0 nx0 cx0) := (by rw [(bcell hc).1 _ _ B1s]; exact B1c0); replace B1c1 : u10.cell? ⟨u6.heap.size, 1, none⟩ = some (.slice bax0 bnx0 bcx0) := (by rw [(bcell hc).1 _ _ B1s]; exact B1c1); replace B1c2 : u10.cell? ⟨u6.heap.size, 2, none⟩ = some (.slice cax0 cnx0 ccx0) := (by rw [(bcell hc).1 _ _ B1s]; exact B1c2); replace B1s : u6.heap.size < u10.heap.size := (by omega); replace DA0 : Hid (LPA false (0) w.heap.size u10 a0 n0 c0 xs0 ba0 bn0 bc0 bs0 ca0 cn0 cc0 cs0) := hid (beLP DA0.out hc (by omega)); replace DA1 : Hid (RatsA false (0) w.heap.size u10 a1 n1 c1 xs1) := hid (beRats DA1.out hc (by omega)); replace Dx0 : Hid (LPA true (u5.heap.size) u6.heap.size u10 ax0 nx0 cx0 xs0 bax0 bnx0 bcx0 bs0 cax0 cnx0 ccx0 cs0) := hid (beLP Dx0.out hc (by omega)); replace Dx1 : Hid (RatsA true (u6.heap.size + 1) u7.heap.size u10 ax1 nx1 cx1 xs1) := hid (beRats Dx1.out hc (by omega)); replace HW : Hid (Below w.heap.size w u10) := hid (Below.calm HW.out hc); clear hb hc))
      go_wp2_with fail
      refine (toRats a1 n1 c1 xs1 _ (beRats (B := u10.heap.size) DA1.out (by repeat (first | assumption | exact Below.refl _ _ | refine below_drewN ?_ _ | refine Below.al ?_ (by first | exact Nat.le_refl _ | omega | (simp; done) | (simp; omega)) _ | refine Below.setCell ?_ (by first | exact Nat.le_refl _ | omega | (simp; done) | (simp; omega)) _)) (by first | exact Nat.le_refl _ | omega | (simp; done) | (simp; omega))) (by first | exact Nat.le_refl _ | omega | (simp; done) | (simp; omega)) HS1.out).mono ?_
      rintro e u11 ⟨ay1, ny1, cy1, rfl, ho, hb⟩
      have hc : Below u10.heap.size u10 u11 := Below.trans (by repeat (first | assumption | exact Below.refl _ _ | refine below_drewN ?_ _ | refine Below.al ?_ (by first | exact Nat.le_refl _ | omega | (simp; done) | (simp; omega)) _ | refine Below.setCell ?_ (by first | exact Nat.le_refl _ | omega | (simp; done) | (simp; omega)) _)) (hb.mono (by first | exact Nat.le_refl _ | omega | (simp; done) | (simp; omega)))
      have z11 : u10.heap.size ≤ u11.heap.size := hc.size
      replace B0c0 : u11.cell? ⟨w.heap.size, 0, none⟩ = some (.slice a0 n0 c0) := (by rw [(bcell hc).1 _ _ B0s]; exact B0c0)
      replace B0c1 : u11.cell? ⟨w.heap.size, 1, none⟩ = some (.slice ba0 bn0 bc0) := (by rw [(bcell hc).1 _ _ B0s]; exact B0c1)
      replace B0c2 : u11.cell? ⟨w.heap.size, 2, none⟩ = some (.slice ca0 cn0 cc0) := (by rw [(bcell hc).1 _ _ B0s]; exact B0c2)
      replace B0s : w.heap.size < u11.heap.size := (by omega)
      replace B1c0 : u11.cell? ⟨u6.heap.size, 0, none⟩ = some (.slice ax0 nx0 cx0) := (by rw [(bcell hc).1 _ _ B1s]; exact B1c0)
      replace B1c1 : u11.cell? ⟨u6.heap.size, 1, none⟩ = some (.slice bax0 bnx0 bcx0) := (by rw [(bcell hc).1 _ _ B1s]; exact B1c1)
      replace B1c2 : u11.cell? ⟨u6.heap.size, 2, none⟩ = some (.slice cax0 cnx0 ccx0) := (by rw [(bcell hc).1 _ _ B1s]; exact B1c2)
      replace B1s : u6.heap.size < u11.heap.size := (by omega)
      replace DA0 : Hid (LPA false (0) w.heap.size u11 a0 n0 c0 xs0 ba0 bn0 bc0 bs0 ca0 cn0 cc0 cs0) := hid (beLP DA0.out hc (by omega))
      replace DA1 : Hid (RatsA false (0) w.heap.size u11 a1 n1 c1 xs1) := hid (beRats DA1.out hc (by omega))
      replace Dx0 : Hid (LPA true (u5.heap.size) u6.heap.size u11 ax0 nx0 cx0 xs0 bax0 bnx0 bcx0 bs0 cax0 cnx0 ccx0 cs0) := hid (beLP Dx0.out hc (by omega))
      replace Dx1 : Hid (RatsA true (u6.heap.size + 1) u7.heap.size u11 ax1 nx1 cx1 xs1) := hid (beRats Dx1.out hc (by omega))
      replace HW : Hid (Below w.heap.size w u11) := hid (Below.calm HW.out hc)
      have Dy1 : Hid (RatsA true (u10.heap.size) u11.heap.size u11 ay1 ny1 cy1 xs1) := hid (wdRats ho (by first | exact Nat.le_refl _ | omega | (simp; done) | (simp; omega)))
      clear ho hb hc
      go_wp2_with fail
      refine (eqRats ax1 ay1 nx1 cx1 ny1 cy1 xs1 _ (beRats (B := u11.heap.size) Dx1.out (by repeat (first | assumption | exact Below.refl _ _ | refine below_drewN ?_ _ | refine Below.al ?_ (by first | exact Nat.le_refl _ | omega | (simp; done) | (simp; omega)) _ | refine Below.setCell ?_ (by first | exact Nat.le_refl _ | omega | (simp; done) | (simp; omega)) _)) (by first | exact Nat.le_refl _ | omega | (simp; done) | (simp; omega))) (by first | exact Nat.le_refl _ | omega | (simp; done) | (simp; omega)) (beRats (B := u11.heap.size) Dy1.out (by repeat (first | assumption | exact Below.refl _ _ | refine below_drewN ?_ _ | refine Below.al ?_ (by first | exact Nat.le_refl _ | omega | (simp; done) | (simp; omega)) _ | refine Below.setCell ?_ (by first | exact Nat.le_refl _ | omega | (simp; done) | (simp; omega)) _)) (by first | exact Nat.le_refl _ | omega | (simp; done) | (simp; omega))) (by first | exact Nat.le_refl _ | omega | (simp; done) | (simp; omega))).mono ?_
      rintro e u12 ⟨rfl, hb⟩
      have hc : Below u11.heap.size u11 u12 := Below.trans (by repeat (first | assumption | exact Below.refl _ _ | refine below_drewN ?_ _ | refine Below.al ?_ (by first | exact Nat.le_refl _ | omega | (simp; done) | (simp; omega)) _ | refine Below.setCell ?_ (by first | exact Nat.le_refl _ | omega | (simp; done) | (simp; omega)) _)) (hb.mono (by first | exact Nat.le_refl _ | omega | (simp; done) | (simp; omega)))
      have z12 : u11.heap.size ≤ u12.heap.size := hc.size
      replace B0c0 : u12.cell? ⟨w.heap.size, 0, none⟩ = some (.slice a0 n0 c0) := (by rw [(bcell hc).1 _ _ B0s]; exact B0c0)
      replace B0c1 : u12.cell? ⟨w.heap.size, 1, none⟩ = some (.slice ba0 bn0 bc0) := (by rw [(bcell hc).1 _ _ B0s]; exact B0c1)
      replace B0c2 : u12.cell? ⟨w.heap.size, 2, none⟩ = some (.slice ca0 cn0 cc0) := (by rw [(bcell hc).1 _ _ B0s]; exact B0c2)
      replace B0s : w.heap.size < u12.heap.size := (by omega)
      replace B1c0 : u12.cell? ⟨u6.heap.size, 0, none⟩ = some (.slice ax0 nx0 cx0) := (by rw [(bcell hc).1 _ _ B1s]; exact B1c0)
      replace B1c1 : u12.cell? ⟨u6.heap.size, 1, none⟩ = some (.slice bax0 bnx0 bcx0) := (by rw [(bcell hc).1 _ _ B1s]; exact B1c1)
      replace B1c2 : u12.cell? ⟨u6.heap.size, 2, none⟩ = some (.slice cax0 cnx0 ccx0) := (by rw [(bcell hc).1 _ _ B1s]; exact B1c2)
      replace B1s : u6.heap.size < u12.heap.size := (by omega)
      replace DA0 : Hid (LPA false (0) w.heap.size u12 a0 n0 c0 xs0 ba0 bn0 bc0 bs0 ca0 cn0 cc0 cs0) := hid (beLP DA0.out hc (by omega))
      replace DA1 : Hid (RatsA false (0) w.heap.size u12 a1 n1 c1 xs1) := hid (beRats DA1.out hc (by omega))
      replace Dx0 : Hid (LPA true (u5.heap.size) u6.heap.size u12 ax0 nx0 cx0 xs0 bax0 bnx0 bcx0 bs0 cax0 cnx0 ccx0 cs0) := hid (beLP Dx0.out hc (by omega))
      replace Dx1 : Hid (RatsA true (u6.heap.size + 1) u7.heap.size u12 ax1 nx1 cx1 xs1) := hid (beRats Dx1.out hc (by omega))
      replace Dy1 : Hid (RatsA true (u10.heap.size) u11.heap.size u12 ay1 ny1 cy1 xs1) := hid (beRats Dy1.out hc (by omega))
      replace HW : Hid (Below w.heap.size w u12) := hid (Below.calm HW.out hc)
      clear hb hc
      go_wp2_with fail
      go_ret
      exact ⟨rfl, HW.out⟩
    · rw [szI_no hsz1]
      have HQ1 := hid hsz1; clear hsz1
      go_wp2_with fail
      go_ret
      exact ⟨rfl, HW.out⟩
  · rw [szI_no hsz0]
    have HQ0 := hid hsz0; clear hsz0
    go_wp2_with fail
    go_ret
    exact ⟨rfl, HW.out⟩
end Go.Proofs.Ytgannpmngkgejaa
