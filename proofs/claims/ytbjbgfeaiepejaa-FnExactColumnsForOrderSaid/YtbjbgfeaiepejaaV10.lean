/- The walk of the law FnExactColumnsForOrder: it returns true and changes nothing that was there. Written by lawwalk.py. -/
import Derived.Test.YtbjbgfeaiepejaaA4
import Derived.Test.YtbjbgfeaiepejaaA3
namespace Go.Proofs.Ytbjbgfeaiepejaa
open Go.RowKit
set_option maxHeartbeats 4000000 in
theorem law_FnExactColumnsForOrder (s0 : ByteArray) (a0 : Option Addr) (n0 : Nat) (c0 : Nat) (xs0 : List Int) (a1 : Option Addr) (n1 : Nat) (c1 : Nat) (xs1 : List Int) (w : World) (hD0 : AtomA false (0) w.heap.size w s0 a0 n0 c0 xs0) (hD1 : IntsA false (0) w.heap.size w a1 n1 c1 xs1) :
    Calls Try.prog 3 #[atomV s0 a0 n0 c0, .slice a1 n1 c1] w (Leaves w (.bool true)) := by
  have DA0 := hid hD0; clear hD0
  have DA1 := hid hD1; clear hD1
  have hl1 := DA1.out.len; have HL1 := hid hl1; clear hl1
  by_cases hn1 : n1 ≤ 1048576
  · have HS1 : Hid (xs1.length ≤ 1048576) := hid (by rw [HL1.out]; exact hn1)
    go_enter Try.func3, Try.ntmps3
    go_wp2_with fail
    refine (szK_Atom s0 a0 n0 c0 xs0 1048576 _ (beAtom (B := w.heap.size) DA0.out (by repeat (first | assumption | exact Below.refl _ _ | refine below_drewN ?_ _ | refine Below.al ?_ (by first | exact Nat.le_refl _ | omega | (simp; done) | (simp; omega)) _ | refine Below.setCell ?_ (by first | exact Nat.le_refl _ | omega | (simp; done) | (simp; omega)) _)) (by first | exact Nat.le_refl _ | omega | (simp; done) | (simp; omega))) (by first | exact Nat.le_refl _ | omega | (simp; done) | (simp; omega)) (by omega) (by omega)).mono ?_
    rintro e u1 ⟨rfl, hb⟩
    have hc : Below w.heap.size w u1 := Below.trans (by repeat (first | assumption | exact Below.refl _ _ | refine below_drewN ?_ _ | refine Below.al ?_ (by first | exact Nat.le_refl _ | omega | (simp; done) | (simp; omega)) _ | refine Below.setCell ?_ (by first | exact Nat.le_refl _ | omega | (simp; done) | (simp; omega)) _)) (hb.mono (by first | exact Nat.le_refl _ | omega | (simp; done) | (simp; omega)))
    have z1 : w.heap.size ≤ u1.heap.size := hc.size
    have B0c0 : u1.cell? ⟨w.heap.size, 0, none⟩ = some (.string s0) := (by rw [(bcell hb).1 _ _ (by first | (simp; done) | (simp; omega))]; first | (go_simp; done) | (simp [World.cell?]; done))
    have B0c1 : u1.cell? ⟨w.heap.size, 1, none⟩ = some (.slice a0 n0 c0) := (by rw [(bcell hb).1 _ _ (by first | (simp; done) | (simp; omega))]; first | (go_simp; done) | (simp [World.cell?]; done))
    have B0p : w.heap.size < u1.heap.size := World.block_lt_of_cell? _ _ B0c0
    have B0s : w.heap.size < u1.heap.size := B0p
    replace DA0 : Hid (AtomA false (0) w.heap.size u1 s0 a0 n0 c0 xs0) := hid (beAtom DA0.out hc (by omega))
    replace DA1 : Hid (IntsA false (0) w.heap.size u1 a1 n1 c1 xs1) := hid (beInts DA1.out hc (by omega))
    have HW := hid hc
    clear hb hc
    by_cases hsz0 : (szAtomD s0 xs0 : Int) ≤ 1048576
    · rw [szI_yes hsz0]
      obtain ⟨left0, hleft0⟩ : ∃ l, l = 1048576 - (szAtomD s0 xs0 : Int) := ⟨_, rfl⟩
      rw [← hleft0]
      have hlo0 : 0 ≤ left0 := by omega
      have hhi0 : left0 ≤ 1048576 := by omega
      have HS0 : Hid (szAtomD s0 xs0 ≤ 1048576) := hid (by omega)
      have HQ0 := hid (And.intro hsz0 hleft0); clear hsz0 hleft0
      go_wp2_with fail
      refine (toK_Atom s0 a0 n0 c0 xs0 _ (beAtom (B := u1.heap.size) DA0.out (by repeat (first | assumption | exact Below.refl _ _ | refine below_drewN ?_ _ | refine Below.al ?_ (by first | exact Nat.le_refl _ | omega | (simp; done) | (simp; omega)) _ | refine Below.setCell ?_ (by first | exact Nat.le_refl _ | omega | (simp; done) | (simp; omega)) _)) (by first | exact Nat.le_refl _ | omega | (simp; done) | (simp; omega))) (by first | exact Nat.le_refl _ | omega | (simp; done) | (simp; omega)) HS0.out).mono ?_
      rintro e u2 ⟨ap0, np0, cp0, rfl, ho, hb⟩
      have hc : Below u1.heap.size u1 u2 := Below.trans (by repeat (first | assumption | exact Below.refl _ _ | refine below_drewN ?_ _ | refine Below.al ?_ (by first | exact Nat.le_refl _ | omega | (simp; done) | (simp; omega)) _ | refine Below.setCell ?_ (by first | exact Nat.le_refl _ | omega | (simp; done) | (simp; omega)) _)) (hb.mono (by first | exact Nat.le_refl _ | omega | (simp; done) | (simp; omega)))
      have z2 : u1.heap.size ≤ u2.heap.size := hc.size
      replace B0c0 : u2.cell? ⟨w.heap.size, 0, none⟩ = some (.string s0) := (by rw [(bcell hc).1 _ _ B0s]; exact B0c0)
      replace B0c1 : u2.cell? ⟨w.heap.size, 1, none⟩ = some (.slice a0 n0 c0) := (by rw [(bcell hc).1 _ _ B0s]; exact B0c1)
      replace B0s : w.heap.size < u2.heap.size := (by omega)
      replace DA0 : Hid (AtomA false (0) w.heap.size u2 s0 a0 n0 c0 xs0) := hid (beAtom DA0.out hc (by omega))
      replace DA1 : Hid (IntsA false (0) w.heap.size u2 a1 n1 c1 xs1) := hid (beInts DA1.out hc (by omega))
      replace HW : Hid (Below w.heap.size w u2) := hid (Below.calm HW.out hc)
      have Dp0 : Hid (AtomA true (u1.heap.size) u2.heap.size u2 s0 ap0 np0 cp0 xs0) := hid (wdAtom ho (by first | exact Nat.le_refl _ | omega | (simp; done) | (simp; omega)))
      clear ho hb hc
      go_wp2_with fail
      refine (toK_Ints a1 n1 c1 xs1 _ (beInts (B := u2.heap.size) DA1.out (by repeat (first | assumption | exact Below.refl _ _ | refine below_drewN ?_ _ | refine Below.al ?_ (by first | exact Nat.le_refl _ | omega | (simp; done) | (simp; omega)) _ | refine Below.setCell ?_ (by first | exact Nat.le_refl _ | omega | (simp; done) | (simp; omega)) _)) (by first | exact Nat.le_refl _ | omega | (simp; done) | (simp; omega))) (by first | exact Nat.le_refl _ | omega | (simp; done) | (simp; omega)) HS1.out).mono ?_
      rintro e u3 ⟨ap1, np1, cp1, rfl, ho, hb⟩
      have hc : Below u2.heap.size u2 u3 := Below.trans (by repeat (first | assumption | exact Below.refl _ _ | refine below_drewN ?_ _ | refine Below.al ?_ (by first | exact Nat.le_refl _ | omega | (simp; done) | (simp; omega)) _ | refine Below.setCell ?_ (by first | exact Nat.le_refl _ | omega | (simp; done) | (simp; omega)) _)) (hb.mono (by first | exact Nat.le_refl _ | omega | (simp; done) | (simp; omega)))
      have z3 : u2.heap.size ≤ u3.heap.size := hc.size
      replace B0c0 : u3.cell? ⟨w.heap.size, 0, none⟩ = some (.string s0) := (by rw [(bcell hc).1 _ _ B0s]; exact B0c0)
      replace B0c1 : u3.cell? ⟨w.heap.size, 1, none⟩ = some (.slice a0 n0 c0) := (by rw [(bcell hc).1 _ _ B0s]; exact B0c1)
      replace B0s : w.heap.size < u3.heap.size := (by omega)
      replace DA0 : Hid (AtomA false (0) w.heap.size u3 s0 a0 n0 c0 xs0) := hid (beAtom DA0.out hc (by omega))
      replace DA1 : Hid (IntsA false (0) w.heap.size u3 a1 n1 c1 xs1) := hid (beInts DA1.out hc (by omega))
      replace Dp0 : Hid (AtomA true (u1.heap.size) u2.heap.size u3 s0 ap0 np0 cp0 xs0) := hid (beAtom Dp0.out hc (by omega))
      replace HW : Hid (Below w.heap.size w u3) := hid (Below.calm HW.out hc)
      have Dp1 : Hid (IntsA true (u2.heap.size) u3.heap.size u3 ap1 np1 cp1 xs1) := hid (wdInts ho (by first | exact Nat.le_refl _ | omega | (simp; done) | (simp; omega)))
      clear ho hb hc
      go_wp2_with fail
      refine ((specCols s0 ap0 np0 cp0 xs0 ap1 np1 cp1 xs1 _ (beAtom (B := u3.heap.size) Dp0.out (by repeat (first | assumption | exact Below.refl _ _ | refine below_drewN ?_ _ | refine Below.al ?_ (by first | exact Nat.le_refl _ | omega | (simp; done) | (simp; omega)) _ | refine Below.setCell ?_ (by first | exact Nat.le_refl _ | omega | (simp; done) | (simp; omega)) _)) (by first | exact Nat.le_refl _ | omega | (simp; done) | (simp; omega))).2 (by first | exact Nat.le_refl _ | omega | (simp; done) | (simp; omega)) (beInts (B := u3.heap.size) Dp1.out (by repeat (first | assumption | exact Below.refl _ _ | refine below_drewN ?_ _ | refine Below.al ?_ (by first | exact Nat.le_refl _ | omega | (simp; done) | (simp; omega)) _ | refine Below.setCell ?_ (by first | exact Nat.le_refl _ | omega | (simp; done) | (simp; omega)) _)) (by first | exact Nat.le_refl _ | omega | (simp; done) | (simp; omega))) (by first | exact Nat.le_refl _ | omega | (simp; done) | (simp; omega)) HS1.out).mono fun _ _ h => h.gv).mono ?_
      rintro e u4 ⟨aW, nW, cW, rfl, ho, hb⟩
      have hc : Below u3.heap.size u3 u4 := Below.trans (by repeat (first | assumption | exact Below.refl _ _ | refine below_drewN ?_ _ | refine Below.al ?_ (by first | exact Nat.le_refl _ | omega | (simp; done) | (simp; omega)) _ | refine Below.setCell ?_ (by first | exact Nat.le_refl _ | omega | (simp; done) | (simp; omega)) _)) (hb.mono (by first | exact Nat.le_refl _ | omega | (simp; done) | (simp; omega)))
      have z4 : u3.heap.size ≤ u4.heap.size := hc.size
      replace B0c0 : u4.cell? ⟨w.heap.size, 0, none⟩ = some (.string s0) := (by rw [(bcell hc).1 _ _ B0s]; exact B0c0)
      replace B0c1 : u4.cell? ⟨w.heap.size, 1, none⟩ = some (.slice a0 n0 c0) := (by rw [(bcell hc).1 _ _ B0s]; exact B0c1)
      replace B0s : w.heap.size < u4.heap.size := (by omega)
      replace DA0 : Hid (AtomA false (0) w.heap.size u4 s0 a0 n0 c0 xs0) := hid (beAtom DA0.out hc (by omega))
      replace DA1 : Hid (IntsA false (0) w.heap.size u4 a1 n1 c1 xs1) := hid (beInts DA1.out hc (by omega))
      replace Dp0 : Hid (AtomA true (u1.heap.size) u2.heap.size u4 s0 ap0 np0 cp0 xs0) := hid (beAtom Dp0.out hc (by omega))
      replace Dp1 : Hid (IntsA true (u2.heap.size) u3.heap.size u4 ap1 np1 cp1 xs1) := hid (beInts Dp1.out hc (by omega))
      replace HW : Hid (Below w.heap.size w u4) := hid (Below.calm HW.out hc)
      have DW : Hid (IntsA true (u3.heap.size) u4.heap.size u4 aW nW cW (colF xs0 xs1)) := hid (wdInts ho (by first | exact Nat.le_refl _ | omega | (simp; done) | (simp; omega)))
      clear ho hb hc
      go_wp2_with fail
      refine (toK_Atom s0 a0 n0 c0 xs0 _ (beAtom (B := u4.heap.size) DA0.out (by repeat (first | assumption | exact Below.refl _ _ | refine below_drewN ?_ _ | refine Below.al ?_ (by first | exact Nat.le_refl _ | omega | (simp; done) | (simp; omega)) _ | refine Below.setCell ?_ (by first | exact Nat.le_refl _ | omega | (simp; done) | (simp; omega)) _)) (by first | exact Nat.le_refl _ | omega | (simp; done) | (simp; omega))) (by first | exact Nat.le_refl _ | omega | (simp; done) | (simp; omega)) HS0.out).mono ?_
      rintro e u5 ⟨ax0, nx0, cx0, rfl, ho, hb⟩
      have hc : Below u4.heap.size u4 u5 := Below.trans (by repeat (first | assumption | exact Below.refl _ _ | refine below_drewN ?_ _ | refine Below.al ?_ (by first | exact Nat.le_refl _ | omega | (simp; done) | (simp; omega)) _ | refine Below.setCell ?_ (by first | exact Nat.le_refl _ | omega | (simp; done) | (simp; omega)) _)) (hb.mono (by first | exact Nat.le_refl _ | omega | (simp; done) | (simp; omega)))
      have z5 : u4.heap.size ≤ u5.heap.size := hc.size
      replace B0c0 : u5.cell? ⟨w.heap.size, 0, none⟩ = some (.string s0) := (by rw [(bcell hc).1 _ _ B0s]; exact B0c0)
      replace B0c1 : u5.cell? ⟨w.heap.size, 1, none⟩ = some (.slice a0 n0 c0) := (by rw [(bcell hc).1 _ _ B0s]; exact B0c1)
      replace B0s : w.heap.size < u5.heap.size := (by omega)
      replace DA0 : Hid (AtomA false (0) w.heap.size u5 s0 a0 n0 c0 xs0) := hid (beAtom DA0.out hc (by omega))
      replace DA1 : Hid (IntsA false (0) w.heap.size u5 a1 n1 c1 xs1) := hid (beInts DA1.out hc (by omega))
      replace DW : Hid (IntsA true (u3.heap.size) u4.heap.size u5 aW nW cW (colF xs0 xs1)) := hid (beInts DW.out hc (by omega))
      replace HW : Hid (Below w.heap.size w u5) := hid (Below.calm HW.out hc)
      have Dx0 : Hid (AtomA true (u4.heap.size) u5.heap.size u5 s0 ax0 nx0 cx0 xs0) := hid (wdAtom ho (by first | exact Nat.le_refl _ | omega | (simp; done) | (simp; omega)))
      clear ho hb hc
      go_wp2_with fail
      refine (toK_Ints a1 n1 c1 xs1 _ (beInts (B := u5.heap.size) DA1.out (by repeat (first | assumption | exact Below.refl _ _ | refine below_drewN ?_ _ | refine Below.al ?_ (by first | exact Nat.le_refl _ | omega | (simp; done) | (simp; omega)) _ | refine Below.setCell ?_ (by first | exact Nat.le_refl _ | omega | (simp; done) | (simp; omega)) _)) (by first | exact Nat.le_refl _ | omega | (simp; done) | (simp; omega))) (by first | exact Nat.le_refl _ | omega | (simp; done) | (simp; omega)) HS1.out).mono ?_
      rintro e u6 ⟨ax1, nx1, cx1, rfl, ho, hb⟩
      have hc : Below u5.heap.size u5 u6 := Below.trans (by repeat (first | assumption | exact Below.refl _ _ | refine below_drewN ?_ _ | refine Below.al ?_ (by first | exact Nat.le_refl _ | omega | (simp; done) | (simp; omega)) _ | refine Below.setCell ?_ (by first | exact Nat.le_refl _ | omega | (simp; done) | (simp; omega)) _)) (hb.mono (by first | exact Nat.le_refl _ | omega | (simp; done) | (simp; omega)))
      have z6 : u5.heap.size ≤ u6.heap.size := hc.size
      replace B0c0 : u6.cell? ⟨w.heap.size, 0, none⟩ = some (.string s0) := (by rw [(bcell hc).1 _ _ B0s]; exact B0c0)
      replace B0c1 : u6.cell? ⟨w.heap.size, 1, none⟩ = some (.slice a0 n0 c0) := (by rw [(bcell hc).1 _ _ B0s]; exact B0c1)
      replace B0s : w.heap.size < u6.heap.size := (by omega)
      have B1c0 : u6.cell? ⟨u5.heap.size, 0, none⟩ = some (.string s0) := (by rw [(bcell hb).1 _ _ (by first | (simp; done) | (simp; omega))]; first | (go_simp; done) | (simp [World.cell?]; done))
      have B1c1 : u6.cell? ⟨u5.heap.size, 1, none⟩ = some (.slice ax0 nx0 cx0) := (by rw [(bcell hb).1 _ _ (by first | (simp; done) | (simp; omega))]; first | (go_simp; done) | (simp [World.cell?]; done))
      have B1p : u5.heap.size < u6.heap.size := World.block_lt_of_cell? _ _ B1c0
      have B1s : u5.heap.size < u6.heap.size := B1p
      replace DA0 : Hid (AtomA false (0) w.heap.size u6 s0 a0 n0 c0 xs0) := hid (beAtom DA0.out hc (by omega))
      replace DA1 : Hid (IntsA false (0) w.heap.size u6 a1 n1 c1 xs1) := hid (beInts DA1.out hc (by omega))
      replace DW : Hid (IntsA true (u3.heap.size) u4.heap.size u6 aW nW cW (colF xs0 xs1)) := hid (beInts DW.out hc (by omega))
      replace Dx0 : Hid (AtomA true (u4.heap.size) u5.heap.size u6 s0 ax0 nx0 cx0 xs0) := hid (beAtom Dx0.out hc (by omega))
      replace HW : Hid (Below w.heap.size w u6) := hid (Below.calm HW.out hc)
      have Dx1 : Hid (IntsA true (u5.heap.size + 1) u6.heap.size u6 ax1 nx1 cx1 xs1) := hid (wdInts ho (by first | exact Nat.le_refl _ | omega | (simp; done) | (simp; omega)))
      clear ho hb hc
      go_wp2_with fail
      refine ((implCols s0 ax0 nx0 cx0 xs0 ax1 nx1 cx1 xs1 _ (beAtom (B := u6.heap.size) Dx0.out (by repeat (first | assumption | exact Below.refl _ _ | refine below_drewN ?_ _ | refine Below.al ?_ (by first | exact Nat.le_refl _ | omega | (simp; done) | (simp; omega)) _ | refine Below.setCell ?_ (by first | exact Nat.le_refl _ | omega | (simp; done) | (simp; omega)) _)) (by first | exact Nat.le_refl _ | omega | (simp; done) | (simp; omega))).2 (by first | exact Nat.le_refl _ | omega | (simp; done) | (simp; omega)) (beInts (B := u6.heap.size) Dx1.out (by repeat (first | assumption | exact Below.refl _ _ | refine below_drewN ?_ _ | refine Below.al ?_ (by first | exact Nat.le_refl _ | omega | (simp; done) | (simp; omega)) _ | refine Below.setCell ?_ (by first | exact Nat.le_refl _ | omega | (simp; done) | (simp; omega)) _)) (by first | exact Nat.le_refl _ | omega | (simp; done) | (simp; omega))) (by first | exact Nat.le_refl _ | omega | (simp; done) | (simp; omega)) HS1.out).mono fun _ _ h => h.gv).mono ?_
      rintro e u7 ⟨aG, nG, cG, rfl, ho, hb⟩
      have hc : Below u6.heap.size u6 u7 := Below.trans (by repeat (first | assumption | exact Below.refl _ _ | refine below_drewN ?_ _ | refine Below.al ?_ (by first | exact Nat.le_refl _ | omega | (simp; done) | (simp; omega)) _ | refine Below.setCell ?_ (by first | exact Nat.le_refl _ | omega | (simp; done) | (simp; omega)) _)) (hb.mono (by first | exact Nat.le_refl _ | omega | (simp; done) | (simp; omega)))
      have z7 : u6.heap.size ≤ u7.heap.size := hc.size
      replace B0c0 : u7.cell? ⟨w.heap.size, 0, none⟩ = some (.string s0) := (by rw [(bcell hc).1 _ _ B0s]; exact B0c0)
      replace B0c1 : u7.cell? ⟨w.heap.size, 1, none⟩ = some (.slice a0 n0 c0) := (by rw [(bcell hc).1 _ _ B0s]; exact B0c1)
      replace B0s : w.heap.size < u7.heap.size := (by omega)
      replace B1c0 : u7.cell? ⟨u5.heap.size, 0, none⟩ = some (.string s0) := (by rw [(bcell hc).1 _ _ B1s]; exact B1c0)
      replace B1c1 : u7.cell? ⟨u5.heap.size, 1, none⟩ = some (.slice ax0 nx0 cx0) := (by rw [(bcell hc).1 _ _ B1s]; exact B1c1)
      replace B1s : u5.heap.size < u7.heap.size := (by omega)
      replace DA0 : Hid (AtomA false (0) w.heap.size u7 s0 a0 n0 c0 xs0) := hid (beAtom DA0.out hc (by omega))
      replace DA1 : Hid (IntsA false (0) w.heap.size u7 a1 n1 c1 xs1) := hid (beInts DA1.out hc (by omega))
      replace DW : Hid (IntsA true (u3.heap.size) u4.heap.size u7 aW nW cW (colF xs0 xs1)) := hid (beInts DW.out hc (by omega))
      replace Dx0 : Hid (AtomA true (u4.heap.size) u5.heap.size u7 s0 ax0 nx0 cx0 xs0) := hid (beAtom Dx0.out hc (by omega))
      replace Dx1 : Hid (IntsA true (u5.heap.size + 1) u6.heap.size u7 ax1 nx1 cx1 xs1) := hid (beInts Dx1.out hc (by omega))
      replace HW : Hid (Below w.heap.size w u7) := hid (Below.calm HW.out hc)
      have DG : Hid (IntsA true (u6.heap.size) u7.heap.size u7 aG nG cG (colF xs0 xs1)) := hid (wdInts ho (by first | exact Nat.le_refl _ | omega | (simp; done) | (simp; omega)))
      clear ho hb hc
      go_wp2_with fail
      refine (eqK_Ints aG aW nG cG nW cW (colF xs0 xs1) _ (beInts (B := u7.heap.size) DG.out (by repeat (first | assumption | exact Below.refl _ _ | refine below_drewN ?_ _ | refine Below.al ?_ (by first | exact Nat.le_refl _ | omega | (simp; done) | (simp; omega)) _ | refine Below.setCell ?_ (by first | exact Nat.le_refl _ | omega | (simp; done) | (simp; omega)) _)) (by first | exact Nat.le_refl _ | omega | (simp; done) | (simp; omega))) (beInts (B := u7.heap.size) DW.out (by repeat (first | assumption | exact Below.refl _ _ | refine below_drewN ?_ _ | refine Below.al ?_ (by first | exact Nat.le_refl _ | omega | (simp; done) | (simp; omega)) _ | refine Below.setCell ?_ (by first | exact Nat.le_refl _ | omega | (simp; done) | (simp; omega)) _)) (by first | exact Nat.le_refl _ | omega | (simp; done) | (simp; omega)))).mono ?_
      rintro e u8 hg; obtain ⟨rfl, hb⟩ := Gives.leaves hg; clear hg
      have hc : Below u7.heap.size u7 u8 := Below.trans (by repeat (first | assumption | exact Below.refl _ _ | refine below_drewN ?_ _ | refine Below.al ?_ (by first | exact Nat.le_refl _ | omega | (simp; done) | (simp; omega)) _ | refine Below.setCell ?_ (by first | exact Nat.le_refl _ | omega | (simp; done) | (simp; omega)) _)) (hb.mono (by first | exact Nat.le_refl _ | omega | (simp; done) | (simp; omega)))
      have z8 : u7.heap.size ≤ u8.heap.size := hc.size
      replace B0c0 : u8.cell? ⟨w.heap.size, 0, none⟩ = some (.string s0) := (by rw [(bcell hc).1 _ _ B0s]; exact B0c0)
      replace B0c1 : u8.cell? ⟨w.heap.size, 1, none⟩ = some (.slice a0 n0 c0) := (by rw [(bcell hc).1 _ _ B0s]; exact B0c1)
      replace B0s : w.heap.size < u8.heap.size := (by omega)
      replace B1c0 : u8.cell? ⟨u5.heap.size, 0, none⟩ = some (.string s0) := (by rw [(bcell hc).1 _ _ B1s]; exact B1c0)
      replace B1c1 : u8.cell? ⟨u5.heap.size, 1, none⟩ = some (.slice ax0 nx0 cx0) := (by rw [(bcell hc).1 _ _ B1s]; exact B1c1)
      replace B1s : u5.heap.size < u8.heap.size := (by omega)
      replace DA0 : Hid (AtomA false (0) w.heap.size u8 s0 a0 n0 c0 xs0) := hid (beAtom DA0.out hc (by omega))
      replace DA1 : Hid (IntsA false (0) w.heap.size u8 a1 n1 c1 xs1) := hid (beInts DA1.out hc (by omega))
      replace DW : Hid (IntsA true (u3.heap.size) u4.heap.size u8 aW nW cW (colF xs0 xs1)) := hid (beInts DW.out hc (by omega))
      replace Dx0 : Hid (AtomA true (u4.heap.size) u5.heap.size u8 s0 ax0 nx0 cx0 xs0) := hid (beAtom Dx0.out hc (by omega))
      replace Dx1 : Hid (IntsA true (u5.heap.size + 1) u6.heap.size u8 ax1 nx1 cx1 xs1) := hid (beInts Dx1.out hc (by omega))
      replace DG : Hid (IntsA true (u6.heap.size) u7.heap.size u8 aG nG cG (colF xs0 xs1)) := hid (beInts DG.out hc (by omega))
      replace HW : Hid (Below w.heap.size w u8) := hid (Below.calm HW.out hc)
      clear hb hc
      go_wp2_with fail
      go_region_held3 (fun w' => w'.cell? ⟨w.heap.size, 0, none⟩ = some (.string s0) ∧ w'.cell? ⟨w.heap.size, 1, none⟩ = some (.slice a0 n0 c0) ∧ w'.cell? ⟨u5.heap.size, 0, none⟩ = some (.string s0) ∧ w'.cell? ⟨u5.heap.size, 1, none⟩ = some (.slice ax0 nx0 cx0)) (refine ⟨?_, ?_, ?_, ?_⟩ <;> assumption)
        (first | (go_at_call 11; refine (toK_Atom s0 a0 n0 c0 xs0 _ (beAtom (B := u8.heap.size) DA0.out (by repeat (first | assumption | exact Below.refl _ _ | refine below_drewN ?_ _ | refine Below.al ?_ (by first | exact Nat.le_refl _ | omega | (simp; done) | (simp; omega)) _ | refine Below.setCell ?_ (by first | exact Nat.le_refl _ | omega | (simp; done) | (simp; omega)) _)) (by first | exact Nat.le_refl _ | omega | (simp; done) | (simp; omega))) (by first | exact Nat.le_refl _ | omega | (simp; done) | (simp; omega)) HS0.out).mono ?_; rintro e u9 ⟨ay0, ny0, cy0, rfl, ho, hb⟩; have hc : Below u8.heap.size u8 u9 := Below.trans (by repeat (first | assumption | exact Below.refl _ _ | refine below_drewN ?_ _ | refine Below.al ?_ (by first | exact Nat.le_refl _ | omega | (simp; done) | (simp; omega)) _ | refine Below.setCell ?_ (by first | exact Nat.le_refl _ | omega | (simp; done) | (simp; omega)) _)) (hb.mono (by first | exact Nat.le_refl _ | omega | (simp; done) | (simp; omega))); have z9 : u8.heap.size ≤ u9.heap.size := hc.size; replace B0c0 : u9.cell? ⟨w.heap.size, 0, none⟩ = some (.string s0) := (by rw [(bcell hc).1 _ _ B0s]; exact B0c0); replace B0c1 : u9.cell? ⟨w.heap.size, 1, none⟩ = some (.slice a0 n0 c0) := (by rw [(bcell hc).1 _ _ B0s]; exact B0c1); replace B0s : w.heap.size < u9.heap.size := (by omega); replace B1c0 : u9.cell? ⟨u5.heap.size, 0, none⟩ = some (.string s0) := (by rw [(bcell hc).1 _ _ B1s]; exact B1c0); replace B1c1 : u9.cell? ⟨u5.heap.size, 1, none⟩ = some (.slice ax0 nx0 cx0) := (by rw [(bcell hc).1 _ _ B1s]; exact B1c1); replace B1s : u5.heap.size < u9.heap.size := (by omega); replace DA0 : Hid (AtomA false (0) w.heap.size u9 s0 a0 n0 c0 xs0) := hid (beAtom DA0.out hc (by omega)); replace DA1 : Hid (IntsA false (0) w.heap.size u9 a1 n1 c1 xs1) := hid (beInts DA1.out hc (by omega)); replace DW : Hid (IntsA true (u3.heap.size) u4.heap.size u9 aW nW cW (colF xs0 xs1)) := hid (beInts DW.out hc (by omega)); replace Dx0 : Hid (AtomA true (u4.heap.size) u5.heap.size u9 s0 ax0 nx0 cx0 xs0) := hid (beAtom Dx0.out hc (by omega)); replace Dx1 : Hid (IntsA true (u5.heap.size + 1) u6.heap.size u9 ax1 nx1 cx1 xs1) := hid (beInts Dx1.out hc (by omega)); replace DG : Hid (IntsA true (u6.heap.size) u7.heap.size u9 aG nG cG (colF xs0 xs1)) := hid (beInts DG.out hc (by omega)); replace HW : Hid (Below w.heap.size w u9) := hid (Below.calm HW.out hc); have Dy0 : Hid (AtomA true (u8.heap.size) u9.heap.size u9 s0 ay0 ny0 cy0 xs0) := hid (wdAtom ho (by first | exact Nat.le_refl _ | omega | (simp; done) | (simp; omega))); clear ho hb hc) | (go_at_call 15; refine (eqK_Atom s0 ax0 ay0 nx0 cx0 ny0 cy0 xs0 _ (beAtom (B := u9.heap.size) Dx0.out (by repeat (first | assumption | exact Below.refl _ _ | refine below_drewN ?_ _ | refine Below.al ?_ (by first | exact Nat.le_refl _ | omega | (simp; done) | (simp; omega)) _ | refine Below.setCell ?_ (by first | exact Nat.le_refl _ | omega | (simp; done) | (simp; omega)) _)) (by first | exact Nat.le_refl _ | omega | (simp; done) | (simp; omega))) (by first | exact Nat.le_refl _ | omega | (simp; done) | (simp; omega)) (beAtom (B := u9.heap.size) Dy0.out (by repeat (first | assumption | exact Below.refl _ _ | refine below_drewN ?_ _ | refine Below.al ?_ (by first | exact Nat.le_refl _ | omega | (simp; done) | (simp; omega)) _ | refine Below.setCell ?_ (by first | exact Nat.le_refl _ | omega | (simp; done) | (simp; omega)) _)) (by first | exact Nat.le_refl _ | omega | (simp; done) | (simp; omega))) (by first | exact Nat.le_refl _ | omega | (simp; done) | (simp; omega))).mono ?_; rintro e u10 ⟨rfl, hb⟩; have hc : Below u9.heap.size u9 u10 := Below.trans (by repeat (first | assumption | exact Below.refl _ _ | refine below_drewN ?_ _ | refine Below.al ?_ (by first | exact Nat.le_refl _ | omega | (simp; done) | (simp; omega)) _ | refine Below.setCell ?_ (by first | exact Nat.le_refl _ | omega | (simp; done) | (simp; omega)) _)) (hb.mono (by first | exact Nat.le_refl _ | omega | (simp; done) | (simp; omega))); have z10 : u9.heap.size ≤ u10.heap.size := hc.size; replace B0c0 : u10.cell? ⟨w.heap.size, 0, none⟩ = some (.string s0) := (by rw [(bcell hc).1 _ _ B0s]; exact B0c0); replace B0c1 : u10.cell? ⟨w.heap.size, 1, none⟩ = some (.slice a0 n0 c0) := (by rw [(bcell hc).1 _ _ B0s]; exact B0c1); replace B0s : w.heap.size < u10.heap.size := (by omega); replace B1c0 : u10.cell? ⟨u5.heap.size, 0, none⟩ = some (.string s0) := (by rw [(bcell hc).1 _ _ B1s]; exact B1c0); replace B1c1 : u10.cell? ⟨u5.heap.size, 1, none⟩ = some (.slice ax0 nx0 cx0) := (by rw [(bcell hc).1 _ _ B1s]; exact B1c1); replace B1s : u5.heap.size < u10.heap.size := (by omega); replace DA0 : Hid (AtomA false (0) w.heap.size u10 s0 a0 n0 c0 xs0) := hid (beAtom DA0.out hc (by omega)); replace DA1 : Hid (IntsA false (0) w.heap.size u10 a1 n1 c1 xs1) := hid (beInts DA1.out hc (by omega)); replace DW : Hid (IntsA true (u3.heap.size) u4.heap.size u10 aW nW cW (colF xs0 xs1)) := hid (beInts DW.out hc (by omega)); replace Dx0 : Hid (AtomA true (u4.heap.size) u5.heap.size u10 s0 ax0 nx0 cx0 xs0) := hid (beAtom Dx0.out hc (by omega)); replace Dx1 : Hid (IntsA true (u5.heap.size + 1) u6.heap.size u10 ax1 nx1 cx1 xs1) := hid (beInts Dx1.out hc (by omega)); replace DG : Hid (IntsA true (u6.heap.size) u7.heap.size u10 aG nG cG (colF xs0 xs1)) := hid (beInts DG.out hc (by omega)); replace HW : Hid (Below w.heap.size w u10) := hid (Below.calm HW.out hc); clear hb hc))
      go_wp2_with fail
      refine (toK_Ints a1 n1 c1 xs1 _ (beInts (B := u10.heap.size) DA1.out (by repeat (first | assumption | exact Below.refl _ _ | refine below_drewN ?_ _ | refine Below.al ?_ (by first | exact Nat.le_refl _ | omega | (simp; done) | (simp; omega)) _ | refine Below.setCell ?_ (by first | exact Nat.le_refl _ | omega | (simp; done) | (simp; omega)) _)) (by first | exact Nat.le_refl _ | omega | (simp; done) | (simp; omega))) (by first | exact Nat.le_refl _ | omega | (simp; done) | (simp; omega)) HS1.out).mono ?_
      rintro e u11 ⟨ay1, ny1, cy1, rfl, ho, hb⟩
      have hc : Below u10.heap.size u10 u11 := Below.trans (by repeat (first | assumption | exact Below.refl _ _ | refine below_drewN ?_ _ | refine Below.al ?_ (by first | exact Nat.le_refl _ | omega | (simp; done) | (simp; omega)) _ | refine Below.setCell ?_ (by first | exact Nat.le_refl _ | omega | (simp; done) | (simp; omega)) _)) (hb.mono (by first | exact Nat.le_refl _ | omega | (simp; done) | (simp; omega)))
      have z11 : u10.heap.size ≤ u11.heap.size := hc.size
      replace B0c0 : u11.cell? ⟨w.heap.size, 0, none⟩ = some (.string s0) := (by rw [(bcell hc).1 _ _ B0s]; exact B0c0)
      replace B0c1 : u11.cell? ⟨w.heap.size, 1, none⟩ = some (.slice a0 n0 c0) := (by rw [(bcell hc).1 _ _ B0s]; exact B0c1)
      replace B0s : w.heap.size < u11.heap.size := (by omega)
      replace B1c0 : u11.cell? ⟨u5.heap.size, 0, none⟩ = some (.string s0) := (by rw [(bcell hc).1 _ _ B1s]; exact B1c0)
      replace B1c1 : u11.cell? ⟨u5.heap.size, 1, none⟩ = some (.slice ax0 nx0 cx0) := (by rw [(bcell hc).1 _ _ B1s]; exact B1c1)
      replace B1s : u5.heap.size < u11.heap.size := (by omega)
      replace DA0 : Hid (AtomA false (0) w.heap.size u11 s0 a0 n0 c0 xs0) := hid (beAtom DA0.out hc (by omega))
      replace DA1 : Hid (IntsA false (0) w.heap.size u11 a1 n1 c1 xs1) := hid (beInts DA1.out hc (by omega))
      replace DW : Hid (IntsA true (u3.heap.size) u4.heap.size u11 aW nW cW (colF xs0 xs1)) := hid (beInts DW.out hc (by omega))
      replace Dx0 : Hid (AtomA true (u4.heap.size) u5.heap.size u11 s0 ax0 nx0 cx0 xs0) := hid (beAtom Dx0.out hc (by omega))
      replace Dx1 : Hid (IntsA true (u5.heap.size + 1) u6.heap.size u11 ax1 nx1 cx1 xs1) := hid (beInts Dx1.out hc (by omega))
      replace DG : Hid (IntsA true (u6.heap.size) u7.heap.size u11 aG nG cG (colF xs0 xs1)) := hid (beInts DG.out hc (by omega))
      replace HW : Hid (Below w.heap.size w u11) := hid (Below.calm HW.out hc)
      have Dy1 : Hid (IntsA true (u10.heap.size) u11.heap.size u11 ay1 ny1 cy1 xs1) := hid (wdInts ho (by first | exact Nat.le_refl _ | omega | (simp; done) | (simp; omega)))
      clear ho hb hc
      go_wp2_with fail
      refine (eqK_Ints ax1 ay1 nx1 cx1 ny1 cy1 xs1 _ (beInts (B := u11.heap.size) Dx1.out (by repeat (first | assumption | exact Below.refl _ _ | refine below_drewN ?_ _ | refine Below.al ?_ (by first | exact Nat.le_refl _ | omega | (simp; done) | (simp; omega)) _ | refine Below.setCell ?_ (by first | exact Nat.le_refl _ | omega | (simp; done) | (simp; omega)) _)) (by first | exact Nat.le_refl _ | omega | (simp; done) | (simp; omega))) (beInts (B := u11.heap.size) Dy1.out (by repeat (first | assumption | exact Below.refl _ _ | refine below_drewN ?_ _ | refine Below.al ?_ (by first | exact Nat.le_refl _ | omega | (simp; done) | (simp; omega)) _ | refine Below.setCell ?_ (by first | exact Nat.le_refl _ | omega | (simp; done) | (simp; omega)) _)) (by first | exact Nat.le_refl _ | omega | (simp; done) | (simp; omega)))).mono ?_
      rintro e u12 hg; obtain ⟨rfl, hb⟩ := Gives.leaves hg; clear hg
      have hc : Below u11.heap.size u11 u12 := Below.trans (by repeat (first | assumption | exact Below.refl _ _ | refine below_drewN ?_ _ | refine Below.al ?_ (by first | exact Nat.le_refl _ | omega | (simp; done) | (simp; omega)) _ | refine Below.setCell ?_ (by first | exact Nat.le_refl _ | omega | (simp; done) | (simp; omega)) _)) (hb.mono (by first | exact Nat.le_refl _ | omega | (simp; done) | (simp; omega)))
      have z12 : u11.heap.size ≤ u12.heap.size := hc.size
      replace B0c0 : u12.cell? ⟨w.heap.size, 0, none⟩ = some (.string s0) := (by rw [(bcell hc).1 _ _ B0s]; exact B0c0)
      replace B0c1 : u12.cell? ⟨w.heap.size, 1, none⟩ = some (.slice a0 n0 c0) := (by rw [(bcell hc).1 _ _ B0s]; exact B0c1)
      replace B0s : w.heap.size < u12.heap.size := (by omega)
      replace B1c0 : u12.cell? ⟨u5.heap.size, 0, none⟩ = some (.string s0) := (by rw [(bcell hc).1 _ _ B1s]; exact B1c0)
      replace B1c1 : u12.cell? ⟨u5.heap.size, 1, none⟩ = some (.slice ax0 nx0 cx0) := (by rw [(bcell hc).1 _ _ B1s]; exact B1c1)
      replace B1s : u5.heap.size < u12.heap.size := (by omega)
      replace DA0 : Hid (AtomA false (0) w.heap.size u12 s0 a0 n0 c0 xs0) := hid (beAtom DA0.out hc (by omega))
      replace DA1 : Hid (IntsA false (0) w.heap.size u12 a1 n1 c1 xs1) := hid (beInts DA1.out hc (by omega))
      replace DW : Hid (IntsA true (u3.heap.size) u4.heap.size u12 aW nW cW (colF xs0 xs1)) := hid (beInts DW.out hc (by omega))
      replace Dx0 : Hid (AtomA true (u4.heap.size) u5.heap.size u12 s0 ax0 nx0 cx0 xs0) := hid (beAtom Dx0.out hc (by omega))
      replace Dx1 : Hid (IntsA true (u5.heap.size + 1) u6.heap.size u12 ax1 nx1 cx1 xs1) := hid (beInts Dx1.out hc (by omega))
      replace DG : Hid (IntsA true (u6.heap.size) u7.heap.size u12 aG nG cG (colF xs0 xs1)) := hid (beInts DG.out hc (by omega))
      replace Dy1 : Hid (IntsA true (u10.heap.size) u11.heap.size u12 ay1 ny1 cy1 xs1) := hid (beInts Dy1.out hc (by omega))
      replace HW : Hid (Below w.heap.size w u12) := hid (Below.calm HW.out hc)
      clear hb hc
      have hkb : (0 : Int) ≤ 1 ∧ (1 : Int) ≤ 1 := by omega
      have hcl0 : xs0.length ≤ szAtomD s0 xs0 := by unfold szAtomD; omega
      obtain ⟨k1, hk1⟩ : ∃ k : Int, k = 1 + (xs0.length : Nat) := ⟨_, rfl⟩
      have hkb1 : 0 ≤ k1 ∧ k1 ≤ 1048577 := by have := HS0.out; omega
      have HK1 := hid hk1; clear hk1 hcl0
      go_wp2_with fail
      refine (markK_Atom s0 ax0 nx0 cx0 xs0 1 _ (beAtom (B := u12.heap.size) Dx0.out (by repeat (first | assumption | exact Below.refl _ _ | refine below_drewN ?_ _ | refine Below.al ?_ (by first | exact Nat.le_refl _ | omega | (simp; done) | (simp; omega)) _ | refine Below.setCell ?_ (by first | exact Nat.le_refl _ | omega | (simp; done) | (simp; omega)) _)) (by first | exact Nat.le_refl _ | omega | (simp; done) | (simp; omega))) (by first | exact Nat.le_refl _ | omega | (simp; done) | (simp; omega)) (by omega) (by omega) HS0.out).mono ?_
      rintro e u13 ⟨rfl, hm⟩
      rw [← HK1.out]
      have z13 : u12.heap.size ≤ u13.heap.size := hm.size
      replace B0c0 : u13.cell? ⟨w.heap.size, 0, none⟩ = some (.string s0) := (by rw [boxG hm _ B0s (by omega)]; exact B0c0)
      replace B0c1 : u13.cell? ⟨w.heap.size, 1, none⟩ = some (.slice a0 n0 c0) := (by rw [boxG hm _ B0s (by omega)]; exact B0c1)
      replace B0s : w.heap.size < u13.heap.size := (by omega)
      replace B1c0 : u13.cell? ⟨u5.heap.size, 0, none⟩ = some (.string s0) := (by rw [boxG hm _ B1s (by omega)]; exact B1c0)
      replace B1c1 : u13.cell? ⟨u5.heap.size, 1, none⟩ = some (.slice ax0 nx0 cx0) := (by rw [boxG hm _ B1s (by omega)]; exact B1c1)
      replace B1s : u5.heap.size < u13.heap.size := (by omega)
      replace DA0 : Hid (AtomA false (0) w.heap.size u13 s0 a0 n0 c0 xs0) := hid (kpAtom DA0.out (hm.keeps (by omega) (by omega)))
      replace DA1 : Hid (IntsA false (0) w.heap.size u13 a1 n1 c1 xs1) := hid (kpInts DA1.out (hm.keeps (by omega) (by omega)))
      replace DW : Hid (IntsA true (u3.heap.size) u4.heap.size u13 aW nW cW (colF xs0 xs1)) := hid (kpInts DW.out (hm.keeps (by omega) (by omega)))
      replace Dx1 : Hid (IntsA true (u5.heap.size + 1) u6.heap.size u13 ax1 nx1 cx1 xs1) := hid (kpInts Dx1.out (hm.keeps (by omega) (by omega)))
      replace DG : Hid (IntsA true (u6.heap.size) u7.heap.size u13 aG nG cG (colF xs0 xs1)) := hid (kpInts DG.out (hm.keeps (by omega) (by omega)))
      replace HW : Hid (Below w.heap.size w u13) := hid (HW.out.trans (hm.below (by omega) (by omega)))
      clear hm
      have hcl1 : xs1.length ≤ xs1.length := Nat.le_refl _
      obtain ⟨k2, hk2⟩ : ∃ k : Int, k = k1 + (xs1.length : Nat) := ⟨_, rfl⟩
      have hkb2 : 0 ≤ k2 ∧ k2 ≤ 2097153 := by have := HS1.out; omega
      have HK2 := hid hk2; clear hk2 hcl1
      go_wp2_with fail
      refine (markK_Ints ax1 nx1 cx1 xs1 k1 _ (beInts (B := u13.heap.size) Dx1.out (by repeat (first | assumption | exact Below.refl _ _ | refine below_drewN ?_ _ | refine Below.al ?_ (by first | exact Nat.le_refl _ | omega | (simp; done) | (simp; omega)) _ | refine Below.setCell ?_ (by first | exact Nat.le_refl _ | omega | (simp; done) | (simp; omega)) _)) (by first | exact Nat.le_refl _ | omega | (simp; done) | (simp; omega))) (by omega) (by omega) HS1.out).mono ?_
      rintro e u14 ⟨rfl, hm⟩
      rw [← HK2.out]
      have z14 : u13.heap.size ≤ u14.heap.size := hm.size
      replace B0c0 : u14.cell? ⟨w.heap.size, 0, none⟩ = some (.string s0) := (by rw [boxG hm _ B0s (by omega)]; exact B0c0)
      replace B0c1 : u14.cell? ⟨w.heap.size, 1, none⟩ = some (.slice a0 n0 c0) := (by rw [boxG hm _ B0s (by omega)]; exact B0c1)
      replace B0s : w.heap.size < u14.heap.size := (by omega)
      replace B1c0 : u14.cell? ⟨u5.heap.size, 0, none⟩ = some (.string s0) := (by rw [boxG hm _ B1s (by omega)]; exact B1c0)
      replace B1c1 : u14.cell? ⟨u5.heap.size, 1, none⟩ = some (.slice ax0 nx0 cx0) := (by rw [boxG hm _ B1s (by omega)]; exact B1c1)
      replace B1s : u5.heap.size < u14.heap.size := (by omega)
      replace DA0 : Hid (AtomA false (0) w.heap.size u14 s0 a0 n0 c0 xs0) := hid (kpAtom DA0.out (hm.keeps (by omega) (by omega)))
      replace DA1 : Hid (IntsA false (0) w.heap.size u14 a1 n1 c1 xs1) := hid (kpInts DA1.out (hm.keeps (by omega) (by omega)))
      replace DW : Hid (IntsA true (u3.heap.size) u4.heap.size u14 aW nW cW (colF xs0 xs1)) := hid (kpInts DW.out (hm.keeps (by omega) (by omega)))
      replace DG : Hid (IntsA true (u6.heap.size) u7.heap.size u14 aG nG cG (colF xs0 xs1)) := hid (kpInts DG.out (hm.keeps (by omega) (by omega)))
      replace HW : Hid (Below w.heap.size w u14) := hid (HW.out.trans (hm.below (by omega) (by omega)))
      clear hm
      go_wp2_with fail
      refine (eqK_Ints aG aW nG cG nW cW (colF xs0 xs1) _ (beInts (B := u14.heap.size) DG.out (by repeat (first | assumption | exact Below.refl _ _ | refine below_drewN ?_ _ | refine Below.al ?_ (by first | exact Nat.le_refl _ | omega | (simp; done) | (simp; omega)) _ | refine Below.setCell ?_ (by first | exact Nat.le_refl _ | omega | (simp; done) | (simp; omega)) _)) (by first | exact Nat.le_refl _ | omega | (simp; done) | (simp; omega))) (beInts (B := u14.heap.size) DW.out (by repeat (first | assumption | exact Below.refl _ _ | refine below_drewN ?_ _ | refine Below.al ?_ (by first | exact Nat.le_refl _ | omega | (simp; done) | (simp; omega)) _ | refine Below.setCell ?_ (by first | exact Nat.le_refl _ | omega | (simp; done) | (simp; omega)) _)) (by first | exact Nat.le_refl _ | omega | (simp; done) | (simp; omega)))).mono ?_
      rintro e u15 hg; obtain ⟨rfl, hb⟩ := Gives.leaves hg; clear hg
      have hc : Below u14.heap.size u14 u15 := Below.trans (by repeat (first | assumption | exact Below.refl _ _ | refine below_drewN ?_ _ | refine Below.al ?_ (by first | exact Nat.le_refl _ | omega | (simp; done) | (simp; omega)) _ | refine Below.setCell ?_ (by first | exact Nat.le_refl _ | omega | (simp; done) | (simp; omega)) _)) (hb.mono (by first | exact Nat.le_refl _ | omega | (simp; done) | (simp; omega)))
      have z15 : u14.heap.size ≤ u15.heap.size := hc.size
      replace B0c0 : u15.cell? ⟨w.heap.size, 0, none⟩ = some (.string s0) := (by rw [(bcell hc).1 _ _ B0s]; exact B0c0)
      replace B0c1 : u15.cell? ⟨w.heap.size, 1, none⟩ = some (.slice a0 n0 c0) := (by rw [(bcell hc).1 _ _ B0s]; exact B0c1)
      replace B0s : w.heap.size < u15.heap.size := (by omega)
      replace B1c0 : u15.cell? ⟨u5.heap.size, 0, none⟩ = some (.string s0) := (by rw [(bcell hc).1 _ _ B1s]; exact B1c0)
      replace B1c1 : u15.cell? ⟨u5.heap.size, 1, none⟩ = some (.slice ax0 nx0 cx0) := (by rw [(bcell hc).1 _ _ B1s]; exact B1c1)
      replace B1s : u5.heap.size < u15.heap.size := (by omega)
      replace DA0 : Hid (AtomA false (0) w.heap.size u15 s0 a0 n0 c0 xs0) := hid (beAtom DA0.out hc (by omega))
      replace DA1 : Hid (IntsA false (0) w.heap.size u15 a1 n1 c1 xs1) := hid (beInts DA1.out hc (by omega))
      replace DW : Hid (IntsA true (u3.heap.size) u4.heap.size u15 aW nW cW (colF xs0 xs1)) := hid (beInts DW.out hc (by omega))
      replace DG : Hid (IntsA true (u6.heap.size) u7.heap.size u15 aG nG cG (colF xs0 xs1)) := hid (beInts DG.out hc (by omega))
      replace HW : Hid (Below w.heap.size w u15) := hid (Below.calm HW.out hc)
      clear hb hc
      have HSG : Hid (((colF xs0 xs1)).length ≤ 1048576) := hid (Nat.le_trans (colF_len xs0 xs1) HS1.out)
      obtain ⟨lenG, hlenG⟩ : ∃ l, l = ((colF xs0 xs1)).length := ⟨_, rfl⟩
      have HLG := hid hlenG; clear hlenG
      obtain ⟨km, hkm⟩ : ∃ k : Int, k = 1 + (lenG : Nat) := ⟨_, rfl⟩
      have hkmb : 0 ≤ km := by omega
      have hkne : (km != km) = false := by simp
      have HKM := hid hkm; clear hkm
      go_wp2_with fail
      refine (resK_Ints aG nG cG ((colF xs0 xs1)) 1 _ (beInts (B := u15.heap.size) DG.out (by repeat (first | assumption | exact Below.refl _ _ | refine below_drewN ?_ _ | refine Below.al ?_ (by first | exact Nat.le_refl _ | omega | (simp; done) | (simp; omega)) _ | refine Below.setCell ?_ (by first | exact Nat.le_refl _ | omega | (simp; done) | (simp; omega)) _)) (by first | exact Nat.le_refl _ | omega | (simp; done) | (simp; omega))) (by omega) (by omega) HSG.out).mono ?_
      rintro e u16 ⟨rfl, hm, ho⟩
      rw [← HLG.out] at ho ⊢; rw [← HKM.out]
      have z16 : u15.heap.size ≤ u16.heap.size := hm.size
      replace B0c0 : u16.cell? ⟨w.heap.size, 0, none⟩ = some (.string s0) := (by rw [boxG hm _ B0s (by omega)]; exact B0c0)
      replace B0c1 : u16.cell? ⟨w.heap.size, 1, none⟩ = some (.slice a0 n0 c0) := (by rw [boxG hm _ B0s (by omega)]; exact B0c1)
      replace B0s : w.heap.size < u16.heap.size := (by omega)
      replace B1c0 : u16.cell? ⟨u5.heap.size, 0, none⟩ = some (.string s0) := (by rw [boxG hm _ B1s (by omega)]; exact B1c0)
      replace B1c1 : u16.cell? ⟨u5.heap.size, 1, none⟩ = some (.slice ax0 nx0 cx0) := (by rw [boxG hm _ B1s (by omega)]; exact B1c1)
      replace B1s : u5.heap.size < u16.heap.size := (by omega)
      replace DA0 : Hid (AtomA false (0) w.heap.size u16 s0 a0 n0 c0 xs0) := hid (kpAtom DA0.out (hm.keeps (by omega) (by omega)))
      replace DA1 : Hid (IntsA false (0) w.heap.size u16 a1 n1 c1 xs1) := hid (kpInts DA1.out (hm.keeps (by omega) (by omega)))
      replace DW : Hid (IntsA true (u3.heap.size) u4.heap.size u16 aW nW cW (colF xs0 xs1)) := hid (kpInts DW.out (hm.keeps (by omega) (by omega)))
      replace HW : Hid (Below w.heap.size w u16) := hid (HW.out.trans (hm.below (by omega) (by omega)))
      have DM : Hid (IntsA true (u6.heap.size) u7.heap.size u16 aG nG cG (marks 1 lenG)) := hid ho
      clear ho hm
      go_wp2_with fail
      refine (heldK_Ints aG nG cG lenG 1 _ (beInts (B := u16.heap.size) DM.out (by repeat (first | assumption | exact Below.refl _ _ | refine below_drewN ?_ _ | refine Below.al ?_ (by first | exact Nat.le_refl _ | omega | (simp; done) | (simp; omega)) _ | refine Below.setCell ?_ (by first | exact Nat.le_refl _ | omega | (simp; done) | (simp; omega)) _)) (by first | exact Nat.le_refl _ | omega | (simp; done) | (simp; omega))) (by omega) (by omega) (by rw [HLG.out]; exact HSG.out)).mono ?_
      rintro e u17 hg; obtain ⟨rfl, hb⟩ := Gives.leaves hg; clear hg
      rw [← HKM.out]
      have hc : Below u16.heap.size u16 u17 := Below.trans (by repeat (first | assumption | exact Below.refl _ _ | refine below_drewN ?_ _ | refine Below.al ?_ (by first | exact Nat.le_refl _ | omega | (simp; done) | (simp; omega)) _ | refine Below.setCell ?_ (by first | exact Nat.le_refl _ | omega | (simp; done) | (simp; omega)) _)) (hb.mono (by first | exact Nat.le_refl _ | omega | (simp; done) | (simp; omega)))
      have z17 : u16.heap.size ≤ u17.heap.size := hc.size
      replace B0c0 : u17.cell? ⟨w.heap.size, 0, none⟩ = some (.string s0) := (by rw [(bcell hc).1 _ _ B0s]; exact B0c0)
      replace B0c1 : u17.cell? ⟨w.heap.size, 1, none⟩ = some (.slice a0 n0 c0) := (by rw [(bcell hc).1 _ _ B0s]; exact B0c1)
      replace B0s : w.heap.size < u17.heap.size := (by omega)
      replace B1c0 : u17.cell? ⟨u5.heap.size, 0, none⟩ = some (.string s0) := (by rw [(bcell hc).1 _ _ B1s]; exact B1c0)
      replace B1c1 : u17.cell? ⟨u5.heap.size, 1, none⟩ = some (.slice ax0 nx0 cx0) := (by rw [(bcell hc).1 _ _ B1s]; exact B1c1)
      replace B1s : u5.heap.size < u17.heap.size := (by omega)
      replace DA0 : Hid (AtomA false (0) w.heap.size u17 s0 a0 n0 c0 xs0) := hid (beAtom DA0.out hc (by omega))
      replace DA1 : Hid (IntsA false (0) w.heap.size u17 a1 n1 c1 xs1) := hid (beInts DA1.out hc (by omega))
      replace DW : Hid (IntsA true (u3.heap.size) u4.heap.size u17 aW nW cW (colF xs0 xs1)) := hid (beInts DW.out hc (by omega))
      replace DM : Hid (IntsA true (u6.heap.size) u7.heap.size u17 aG nG cG (marks 1 lenG)) := hid (beInts DM.out hc (by omega))
      replace HW : Hid (Below w.heap.size w u17) := hid (Below.calm HW.out hc)
      clear hb hc
      go_wp2_with fail
      refine (toK_Atom s0 a0 n0 c0 xs0 _ (beAtom (B := u17.heap.size) DA0.out (by repeat (first | assumption | exact Below.refl _ _ | refine below_drewN ?_ _ | refine Below.al ?_ (by first | exact Nat.le_refl _ | omega | (simp; done) | (simp; omega)) _ | refine Below.setCell ?_ (by first | exact Nat.le_refl _ | omega | (simp; done) | (simp; omega)) _)) (by first | exact Nat.le_refl _ | omega | (simp; done) | (simp; omega))) (by first | exact Nat.le_refl _ | omega | (simp; done) | (simp; omega)) HS0.out).mono ?_
      rintro e u18 ⟨ah0, nh0, ch0, rfl, ho, hb⟩
      have hc : Below u17.heap.size u17 u18 := Below.trans (by repeat (first | assumption | exact Below.refl _ _ | refine below_drewN ?_ _ | refine Below.al ?_ (by first | exact Nat.le_refl _ | omega | (simp; done) | (simp; omega)) _ | refine Below.setCell ?_ (by first | exact Nat.le_refl _ | omega | (simp; done) | (simp; omega)) _)) (hb.mono (by first | exact Nat.le_refl _ | omega | (simp; done) | (simp; omega)))
      have z18 : u17.heap.size ≤ u18.heap.size := hc.size
      replace B0c0 : u18.cell? ⟨w.heap.size, 0, none⟩ = some (.string s0) := (by rw [(bcell hc).1 _ _ B0s]; exact B0c0)
      replace B0c1 : u18.cell? ⟨w.heap.size, 1, none⟩ = some (.slice a0 n0 c0) := (by rw [(bcell hc).1 _ _ B0s]; exact B0c1)
      replace B0s : w.heap.size < u18.heap.size := (by omega)
      replace B1c0 : u18.cell? ⟨u5.heap.size, 0, none⟩ = some (.string s0) := (by rw [(bcell hc).1 _ _ B1s]; exact B1c0)
      replace B1c1 : u18.cell? ⟨u5.heap.size, 1, none⟩ = some (.slice ax0 nx0 cx0) := (by rw [(bcell hc).1 _ _ B1s]; exact B1c1)
      replace B1s : u5.heap.size < u18.heap.size := (by omega)
      replace DA0 : Hid (AtomA false (0) w.heap.size u18 s0 a0 n0 c0 xs0) := hid (beAtom DA0.out hc (by omega))
      replace DA1 : Hid (IntsA false (0) w.heap.size u18 a1 n1 c1 xs1) := hid (beInts DA1.out hc (by omega))
      replace DW : Hid (IntsA true (u3.heap.size) u4.heap.size u18 aW nW cW (colF xs0 xs1)) := hid (beInts DW.out hc (by omega))
      replace DM : Hid (IntsA true (u6.heap.size) u7.heap.size u18 aG nG cG (marks 1 lenG)) := hid (beInts DM.out hc (by omega))
      replace HW : Hid (Below w.heap.size w u18) := hid (Below.calm HW.out hc)
      have Dh0 : Hid (AtomA true (u17.heap.size) u18.heap.size u18 s0 ah0 nh0 ch0 xs0) := hid (wdAtom ho (by first | exact Nat.le_refl _ | omega | (simp; done) | (simp; omega)))
      clear ho hb hc
      go_wp2_with fail
      refine (toK_Ints a1 n1 c1 xs1 _ (beInts (B := u18.heap.size) DA1.out (by repeat (first | assumption | exact Below.refl _ _ | refine below_drewN ?_ _ | refine Below.al ?_ (by first | exact Nat.le_refl _ | omega | (simp; done) | (simp; omega)) _ | refine Below.setCell ?_ (by first | exact Nat.le_refl _ | omega | (simp; done) | (simp; omega)) _)) (by first | exact Nat.le_refl _ | omega | (simp; done) | (simp; omega))) (by first | exact Nat.le_refl _ | omega | (simp; done) | (simp; omega)) HS1.out).mono ?_
      rintro e u19 ⟨ah1, nh1, ch1, rfl, ho, hb⟩
      have hc : Below u18.heap.size u18 u19 := Below.trans (by repeat (first | assumption | exact Below.refl _ _ | refine below_drewN ?_ _ | refine Below.al ?_ (by first | exact Nat.le_refl _ | omega | (simp; done) | (simp; omega)) _ | refine Below.setCell ?_ (by first | exact Nat.le_refl _ | omega | (simp; done) | (simp; omega)) _)) (hb.mono (by first | exact Nat.le_refl _ | omega | (simp; done) | (simp; omega)))
      have z19 : u18.heap.size ≤ u19.heap.size := hc.size
      replace B0c0 : u19.cell? ⟨w.heap.size, 0, none⟩ = some (.string s0) := (by rw [(bcell hc).1 _ _ B0s]; exact B0c0)
      replace B0c1 : u19.cell? ⟨w.heap.size, 1, none⟩ = some (.slice a0 n0 c0) := (by rw [(bcell hc).1 _ _ B0s]; exact B0c1)
      replace B0s : w.heap.size < u19.heap.size := (by omega)
      replace B1c0 : u19.cell? ⟨u5.heap.size, 0, none⟩ = some (.string s0) := (by rw [(bcell hc).1 _ _ B1s]; exact B1c0)
      replace B1c1 : u19.cell? ⟨u5.heap.size, 1, none⟩ = some (.slice ax0 nx0 cx0) := (by rw [(bcell hc).1 _ _ B1s]; exact B1c1)
      replace B1s : u5.heap.size < u19.heap.size := (by omega)
      replace DA0 : Hid (AtomA false (0) w.heap.size u19 s0 a0 n0 c0 xs0) := hid (beAtom DA0.out hc (by omega))
      replace DA1 : Hid (IntsA false (0) w.heap.size u19 a1 n1 c1 xs1) := hid (beInts DA1.out hc (by omega))
      replace DW : Hid (IntsA true (u3.heap.size) u4.heap.size u19 aW nW cW (colF xs0 xs1)) := hid (beInts DW.out hc (by omega))
      replace DM : Hid (IntsA true (u6.heap.size) u7.heap.size u19 aG nG cG (marks 1 lenG)) := hid (beInts DM.out hc (by omega))
      replace Dh0 : Hid (AtomA true (u17.heap.size) u18.heap.size u19 s0 ah0 nh0 ch0 xs0) := hid (beAtom Dh0.out hc (by omega))
      replace HW : Hid (Below w.heap.size w u19) := hid (Below.calm HW.out hc)
      have Dh1 : Hid (IntsA true (u18.heap.size) u19.heap.size u19 ah1 nh1 ch1 xs1) := hid (wdInts ho (by first | exact Nat.le_refl _ | omega | (simp; done) | (simp; omega)))
      clear ho hb hc
      go_wp2_with fail
      refine ((implCols s0 ah0 nh0 ch0 xs0 ah1 nh1 ch1 xs1 _ (beAtom (B := u19.heap.size) Dh0.out (by repeat (first | assumption | exact Below.refl _ _ | refine below_drewN ?_ _ | refine Below.al ?_ (by first | exact Nat.le_refl _ | omega | (simp; done) | (simp; omega)) _ | refine Below.setCell ?_ (by first | exact Nat.le_refl _ | omega | (simp; done) | (simp; omega)) _)) (by first | exact Nat.le_refl _ | omega | (simp; done) | (simp; omega))).2 (by first | exact Nat.le_refl _ | omega | (simp; done) | (simp; omega)) (beInts (B := u19.heap.size) Dh1.out (by repeat (first | assumption | exact Below.refl _ _ | refine below_drewN ?_ _ | refine Below.al ?_ (by first | exact Nat.le_refl _ | omega | (simp; done) | (simp; omega)) _ | refine Below.setCell ?_ (by first | exact Nat.le_refl _ | omega | (simp; done) | (simp; omega)) _)) (by first | exact Nat.le_refl _ | omega | (simp; done) | (simp; omega))) (by first | exact Nat.le_refl _ | omega | (simp; done) | (simp; omega)) HS1.out).mono fun _ _ h => h.gv).mono ?_
      rintro e u20 ⟨aE, nE, cE, rfl, ho, hb⟩
      have hc : Below u19.heap.size u19 u20 := Below.trans (by repeat (first | assumption | exact Below.refl _ _ | refine below_drewN ?_ _ | refine Below.al ?_ (by first | exact Nat.le_refl _ | omega | (simp; done) | (simp; omega)) _ | refine Below.setCell ?_ (by first | exact Nat.le_refl _ | omega | (simp; done) | (simp; omega)) _)) (hb.mono (by first | exact Nat.le_refl _ | omega | (simp; done) | (simp; omega)))
      have z20 : u19.heap.size ≤ u20.heap.size := hc.size
      replace B0c0 : u20.cell? ⟨w.heap.size, 0, none⟩ = some (.string s0) := (by rw [(bcell hc).1 _ _ B0s]; exact B0c0)
      replace B0c1 : u20.cell? ⟨w.heap.size, 1, none⟩ = some (.slice a0 n0 c0) := (by rw [(bcell hc).1 _ _ B0s]; exact B0c1)
      replace B0s : w.heap.size < u20.heap.size := (by omega)
      replace B1c0 : u20.cell? ⟨u5.heap.size, 0, none⟩ = some (.string s0) := (by rw [(bcell hc).1 _ _ B1s]; exact B1c0)
      replace B1c1 : u20.cell? ⟨u5.heap.size, 1, none⟩ = some (.slice ax0 nx0 cx0) := (by rw [(bcell hc).1 _ _ B1s]; exact B1c1)
      replace B1s : u5.heap.size < u20.heap.size := (by omega)
      replace DA0 : Hid (AtomA false (0) w.heap.size u20 s0 a0 n0 c0 xs0) := hid (beAtom DA0.out hc (by omega))
      replace DA1 : Hid (IntsA false (0) w.heap.size u20 a1 n1 c1 xs1) := hid (beInts DA1.out hc (by omega))
      replace DW : Hid (IntsA true (u3.heap.size) u4.heap.size u20 aW nW cW (colF xs0 xs1)) := hid (beInts DW.out hc (by omega))
      replace DM : Hid (IntsA true (u6.heap.size) u7.heap.size u20 aG nG cG (marks 1 lenG)) := hid (beInts DM.out hc (by omega))
      replace Dh0 : Hid (AtomA true (u17.heap.size) u18.heap.size u20 s0 ah0 nh0 ch0 xs0) := hid (beAtom Dh0.out hc (by omega))
      replace Dh1 : Hid (IntsA true (u18.heap.size) u19.heap.size u20 ah1 nh1 ch1 xs1) := hid (beInts Dh1.out hc (by omega))
      replace HW : Hid (Below w.heap.size w u20) := hid (Below.calm HW.out hc)
      have DE : Hid (IntsA true (u19.heap.size) u20.heap.size u20 aE nE cE (colF xs0 xs1)) := hid (wdInts ho (by first | exact Nat.le_refl _ | omega | (simp; done) | (simp; omega)))
      clear ho hb hc
      go_wp2_with fail
      refine (eqK_Ints aE aW nE cE nW cW (colF xs0 xs1) _ (beInts (B := u20.heap.size) DE.out (by repeat (first | assumption | exact Below.refl _ _ | refine below_drewN ?_ _ | refine Below.al ?_ (by first | exact Nat.le_refl _ | omega | (simp; done) | (simp; omega)) _ | refine Below.setCell ?_ (by first | exact Nat.le_refl _ | omega | (simp; done) | (simp; omega)) _)) (by first | exact Nat.le_refl _ | omega | (simp; done) | (simp; omega))) (beInts (B := u20.heap.size) DW.out (by repeat (first | assumption | exact Below.refl _ _ | refine below_drewN ?_ _ | refine Below.al ?_ (by first | exact Nat.le_refl _ | omega | (simp; done) | (simp; omega)) _ | refine Below.setCell ?_ (by first | exact Nat.le_refl _ | omega | (simp; done) | (simp; omega)) _)) (by first | exact Nat.le_refl _ | omega | (simp; done) | (simp; omega)))).mono ?_
      rintro e u21 hg; obtain ⟨rfl, hb⟩ := Gives.leaves hg; clear hg
      have hc : Below u20.heap.size u20 u21 := Below.trans (by repeat (first | assumption | exact Below.refl _ _ | refine below_drewN ?_ _ | refine Below.al ?_ (by first | exact Nat.le_refl _ | omega | (simp; done) | (simp; omega)) _ | refine Below.setCell ?_ (by first | exact Nat.le_refl _ | omega | (simp; done) | (simp; omega)) _)) (hb.mono (by first | exact Nat.le_refl _ | omega | (simp; done) | (simp; omega)))
      have z21 : u20.heap.size ≤ u21.heap.size := hc.size
      replace B0c0 : u21.cell? ⟨w.heap.size, 0, none⟩ = some (.string s0) := (by rw [(bcell hc).1 _ _ B0s]; exact B0c0)
      replace B0c1 : u21.cell? ⟨w.heap.size, 1, none⟩ = some (.slice a0 n0 c0) := (by rw [(bcell hc).1 _ _ B0s]; exact B0c1)
      replace B0s : w.heap.size < u21.heap.size := (by omega)
      replace B1c0 : u21.cell? ⟨u5.heap.size, 0, none⟩ = some (.string s0) := (by rw [(bcell hc).1 _ _ B1s]; exact B1c0)
      replace B1c1 : u21.cell? ⟨u5.heap.size, 1, none⟩ = some (.slice ax0 nx0 cx0) := (by rw [(bcell hc).1 _ _ B1s]; exact B1c1)
      replace B1s : u5.heap.size < u21.heap.size := (by omega)
      replace DA0 : Hid (AtomA false (0) w.heap.size u21 s0 a0 n0 c0 xs0) := hid (beAtom DA0.out hc (by omega))
      replace DA1 : Hid (IntsA false (0) w.heap.size u21 a1 n1 c1 xs1) := hid (beInts DA1.out hc (by omega))
      replace DW : Hid (IntsA true (u3.heap.size) u4.heap.size u21 aW nW cW (colF xs0 xs1)) := hid (beInts DW.out hc (by omega))
      replace DM : Hid (IntsA true (u6.heap.size) u7.heap.size u21 aG nG cG (marks 1 lenG)) := hid (beInts DM.out hc (by omega))
      replace Dh0 : Hid (AtomA true (u17.heap.size) u18.heap.size u21 s0 ah0 nh0 ch0 xs0) := hid (beAtom Dh0.out hc (by omega))
      replace Dh1 : Hid (IntsA true (u18.heap.size) u19.heap.size u21 ah1 nh1 ch1 xs1) := hid (beInts Dh1.out hc (by omega))
      replace DE : Hid (IntsA true (u19.heap.size) u20.heap.size u21 aE nE cE (colF xs0 xs1)) := hid (beInts DE.out hc (by omega))
      replace HW : Hid (Below w.heap.size w u21) := hid (Below.calm HW.out hc)
      clear hb hc
      go_wp2_with fail
      refine (heldK_Ints aG nG cG lenG 1 _ (beInts (B := u21.heap.size) DM.out (by repeat (first | assumption | exact Below.refl _ _ | refine below_drewN ?_ _ | refine Below.al ?_ (by first | exact Nat.le_refl _ | omega | (simp; done) | (simp; omega)) _ | refine Below.setCell ?_ (by first | exact Nat.le_refl _ | omega | (simp; done) | (simp; omega)) _)) (by first | exact Nat.le_refl _ | omega | (simp; done) | (simp; omega))) (by omega) (by omega) (by rw [HLG.out]; exact HSG.out)).mono ?_
      rintro e u22 hg; obtain ⟨rfl, hb⟩ := Gives.leaves hg; clear hg
      rw [← HKM.out]
      have hc : Below u21.heap.size u21 u22 := Below.trans (by repeat (first | assumption | exact Below.refl _ _ | refine below_drewN ?_ _ | refine Below.al ?_ (by first | exact Nat.le_refl _ | omega | (simp; done) | (simp; omega)) _ | refine Below.setCell ?_ (by first | exact Nat.le_refl _ | omega | (simp; done) | (simp; omega)) _)) (hb.mono (by first | exact Nat.le_refl _ | omega | (simp; done) | (simp; omega)))
      have z22 : u21.heap.size ≤ u22.heap.size := hc.size
      replace B0c0 : u22.cell? ⟨w.heap.size, 0, none⟩ = some (.string s0) := (by rw [(bcell hc).1 _ _ B0s]; exact B0c0)
      replace B0c1 : u22.cell? ⟨w.heap.size, 1, none⟩ = some (.slice a0 n0 c0) := (by rw [(bcell hc).1 _ _ B0s]; exact B0c1)
      replace B0s : w.heap.size < u22.heap.size := (by omega)
      replace B1c0 : u22.cell? ⟨u5.heap.size, 0, none⟩ = some (.string s0) := (by rw [(bcell hc).1 _ _ B1s]; exact B1c0)
      replace B1c1 : u22.cell? ⟨u5.heap.size, 1, none⟩ = some (.slice ax0 nx0 cx0) := (by rw [(bcell hc).1 _ _ B1s]; exact B1c1)
      replace B1s : u5.heap.size < u22.heap.size := (by omega)
      replace DA0 : Hid (AtomA false (0) w.heap.size u22 s0 a0 n0 c0 xs0) := hid (beAtom DA0.out hc (by omega))
      replace DA1 : Hid (IntsA false (0) w.heap.size u22 a1 n1 c1 xs1) := hid (beInts DA1.out hc (by omega))
      replace DW : Hid (IntsA true (u3.heap.size) u4.heap.size u22 aW nW cW (colF xs0 xs1)) := hid (beInts DW.out hc (by omega))
      replace DM : Hid (IntsA true (u6.heap.size) u7.heap.size u22 aG nG cG (marks 1 lenG)) := hid (beInts DM.out hc (by omega))
      replace Dh0 : Hid (AtomA true (u17.heap.size) u18.heap.size u22 s0 ah0 nh0 ch0 xs0) := hid (beAtom Dh0.out hc (by omega))
      replace Dh1 : Hid (IntsA true (u18.heap.size) u19.heap.size u22 ah1 nh1 ch1 xs1) := hid (beInts Dh1.out hc (by omega))
      replace DE : Hid (IntsA true (u19.heap.size) u20.heap.size u22 aE nE cE (colF xs0 xs1)) := hid (beInts DE.out hc (by omega))
      replace HW : Hid (Below w.heap.size w u22) := hid (Below.calm HW.out hc)
      clear hb hc
      go_wp2_with fail
      go_ret
      exact ⟨rfl, HW.out⟩
    · rw [szI_no hsz0]
      have HQ0 := hid hsz0; clear hsz0
      go_wp2_with fail
      go_ret
      exact ⟨rfl, HW.out⟩
  · go_enter Try.func3, Try.ntmps3
    go_wp2
    go_ret
    exact ⟨rfl, (by repeat (first | assumption | exact Below.refl _ _ | refine below_drewN ?_ _ | refine Below.al ?_ (by first | exact Nat.le_refl _ | omega | (simp; done) | (simp; omega)) _ | refine Below.setCell ?_ (by first | exact Nat.le_refl _ | omega | (simp; done) | (simp; omega)) _))⟩
end Go.Proofs.Ytbjbgfeaiepejaa
