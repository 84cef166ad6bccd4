/- The walk of the law FnExactOpenIterator: it returns true and changes nothing that was there. Written by lawwalk.py. -/
import Derived.Test.YthochdlbmaiclaaIL2
namespace Go.Proofs.Ythochdlbmaiclaa
set_option linter.unusedSimpArgs false
set_option linter.unusedVariables false
open Go.RowKit
set_option maxHeartbeats 4000000 in
theorem law_FnExactOpenIterator (ar0 : Int) (a0 : Option Addr) (n0 : Nat) (c0 : Nat) (rows0 : List (List Int)) (la0 : Option Addr) (ln0 : Nat) (lc0 : Nat) (lw0 : List Int) (ga0 : Option Addr) (gn0 : Nat) (gc0 : Nat) (gh0 : List Int) (pa0 : Option Addr) (pn0 : Nat) (pc0 : Nat) (ps0 : List Int) (w : World) (hD0 : IterA false (0) w.heap.size w ar0 a0 n0 c0 rows0 la0 ln0 lc0 lw0 ga0 gn0 gc0 gh0 pa0 pn0 pc0 ps0) :
    Calls Try.prog 7 #[iterV ar0 a0 n0 c0 la0 ln0 lc0 ga0 gn0 gc0 pa0 pn0 pc0] w (Leaves w (.bool true)) := by
  have DA0 := hid hD0; clear hD0
  go_enter Try.func7, Try.ntmps7
  go_wp2_with fail
  refine (szK_Iter ar0 a0 n0 c0 rows0 la0 ln0 lc0 lw0 ga0 gn0 gc0 gh0 pa0 pn0 pc0 ps0 1048576 _ (beIter (B := w.heap.size) DA0.out (by repeat (first | with_reducible assumption | with_reducible exact Below.refl _ _ | with_reducible refine below_drewN ?_ _ | with_reducible refine Below.al ?_ (by first | with_reducible exact Nat.le_refl _ | omega | (simp; done) | (simp; omega) | exact Nat.le_refl _) _ | with_reducible refine Below.setCell ?_ (by first | with_reducible exact Nat.le_refl _ | omega | (simp; done) | (simp; omega) | exact Nat.le_refl _) _ | assumption | exact Below.refl _ _ | refine below_drewN ?_ _ | refine Below.al ?_ (by first | with_reducible exact Nat.le_refl _ | omega | (simp; done) | (simp; omega) | exact Nat.le_refl _) _ | refine Below.setCell ?_ (by first | with_reducible exact Nat.le_refl _ | omega | (simp; done) | (simp; omega) | exact Nat.le_refl _) _)) (by first | with_reducible exact Nat.le_refl _ | omega | (simp; done) | (simp; omega) | exact Nat.le_refl _)) (by first | with_reducible exact Nat.le_refl _ | omega | (simp; done) | (simp; omega) | exact Nat.le_refl _) (by omega) (by omega)).mono ?_
  rintro e u1 ⟨rfl, hb⟩
  have hc : Below w.heap.size w u1 := Below.trans (by repeat (first | with_reducible assumption | with_reducible exact Below.refl _ _ | with_reducible refine below_drewN ?_ _ | with_reducible refine Below.al ?_ (by first | with_reducible exact Nat.le_refl _ | omega | (simp; done) | (simp; omega) | exact Nat.le_refl _) _ | with_reducible refine Below.setCell ?_ (by first | with_reducible exact Nat.le_refl _ | omega | (simp; done) | (simp; omega) | exact Nat.le_refl _) _ | assumption | exact Below.refl _ _ | refine below_drewN ?_ _ | refine Below.al ?_ (by first | with_reducible exact Nat.le_refl _ | omega | (simp; done) | (simp; omega) | exact Nat.le_refl _) _ | refine Below.setCell ?_ (by first | with_reducible exact Nat.le_refl _ | omega | (simp; done) | (simp; omega) | exact Nat.le_refl _) _)) (hb.mono (by first | with_reducible exact Nat.le_refl _ | omega | (simp; done) | (simp; omega) | exact Nat.le_refl _))
  have z1 : w.heap.size ≤ u1.heap.size := hc.size
  have B0c0 : u1.cell? ⟨w.heap.size, 0, none⟩ = some (.int .i64 ar0) := (by rw [(bcell hb).1 _ _ (by first | omega | (simp; done) | (simp; omega))]; first | with_reducible assumption | (go_simp; done) | assumption | (simp [World.cell?]; done))
  have B0c1 : u1.cell? ⟨w.heap.size, 1, none⟩ = some (.slice a0 n0 c0) := (by rw [(bcell hb).1 _ _ (by first | omega | (simp; done) | (simp; omega))]; first | with_reducible assumption | (go_simp; done) | assumption | (simp [World.cell?]; done))
  have B0c2 : u1.cell? ⟨w.heap.size, 2, none⟩ = some (.slice la0 ln0 lc0) := (by rw [(bcell hb).1 _ _ (by first | omega | (simp; done) | (simp; omega))]; first | with_reducible assumption | (go_simp; done) | assumption | (simp [World.cell?]; done))
  have B0c3 : u1.cell? ⟨w.heap.size, 3, none⟩ = some (.slice ga0 gn0 gc0) := (by rw [(bcell hb).1 _ _ (by first | omega | (simp; done) | (simp; omega))]; first | with_reducible assumption | (go_simp; done) | assumption | (simp [World.cell?]; done))
  have B0c4 : u1.cell? ⟨w.heap.size, 4, none⟩ = some (.slice pa0 pn0 pc0) := (by rw [(bcell hb).1 _ _ (by first | omega | (simp; done) | (simp; omega))]; first | with_reducible assumption | (go_simp; done) | assumption | (simp [World.cell?]; done))
  have B0p : w.heap.size < u1.heap.size := World.block_lt_of_cell? _ _ B0c0
  have B0s : w.heap.size < u1.heap.size := B0p
  replace DA0 : Hid (IterA false (0) w.heap.size u1 ar0 a0 n0 c0 rows0 la0 ln0 lc0 lw0 ga0 gn0 gc0 gh0 pa0 pn0 pc0 ps0) := hid (beIter DA0.out hc (by omega))
  have HW := hid hc
  clear hb hc
  by_cases hsz0 : (szIter rows0 lw0 gh0 ps0 : Int) ≤ 1048576
  · rw [szI_yes hsz0]
    obtain ⟨left0, hleft0⟩ : ∃ l, l = 1048576 - (szIter rows0 lw0 gh0 ps0 : Int) := ⟨_, rfl⟩
    rw [← hleft0]
    have hlo0 : 0 ≤ left0 := by omega
    have hhi0 : left0 ≤ 1048576 := by omega
    have HS0 : Hid (szIter rows0 lw0 gh0 ps0 ≤ 1048576) := hid (by omega)
    have HQ0 := hid (And.intro hsz0 hleft0); clear hsz0 hleft0
    go_wp2_with fail
    refine (toK_Iter ar0 a0 n0 c0 rows0 la0 ln0 lc0 lw0 ga0 gn0 gc0 gh0 pa0 pn0 pc0 ps0 _ (beIter (B := u1.heap.size) DA0.out (by repeat (first | with_reducible assumption | with_reducible exact Below.refl _ _ | with_reducible refine below_drewN ?_ _ | with_reducible refine Below.al ?_ (by first | with_reducible exact Nat.le_refl _ | omega | (simp; done) | (simp; omega) | exact Nat.le_refl _) _ | with_reducible refine Below.setCell ?_ (by first | with_reducible exact Nat.le_refl _ | omega | (simp; done) | (simp; omega) | exact Nat.le_refl _) _ | assumption | exact Below.refl _ _ | refine below_drewN ?_ _ | refine Below.al ?_ (by first | with_reducible exact Nat.le_refl _ | omega | (simp; done) | (simp; omega) | exact Nat.le_refl _) _ | refine Below.setCell ?_ (by first | with_reducible exact Nat.le_refl _ | omega | (simp; done) | (simp; omega) | exact Nat.le_refl _) _)) (by first | with_reducible exact Nat.le_refl _ | omega | (simp; done) | (simp; omega) | exact Nat.le_refl _)) (by first | with_reducible exact Nat.le_refl _ | omega | (simp; done) | (simp; omega) | exact Nat.le_refl _) HS0.out).mono ?_
    rintro e u2 ⟨ap0, np0, cp0, lap0, lnp0, lcp0, gap0, gnp0, gcp0, pap0, pnp0, pcp0, rfl, ho, hb⟩
    have hc : Below u1.heap.size u1 u2 := Below.trans (by repeat (first | with_reducible assumption | with_reducible exact Below.refl _ _ | with_reducible refine below_drewN ?_ _ | with_reducible refine Below.al ?_ (by first | with_reducible exact Nat.le_refl _ | omega | (simp; done) | (simp; omega) | exact Nat.le_refl _) _ | with_reducible refine Below.setCell ?_ (by first | with_reducible exact Nat.le_refl _ | omega | (simp; done) | (simp; omega) | exact Nat.le_refl _) _ | assumption | exact Below.refl _ _ | refine below_drewN ?_ _ | refine Below.al ?_ (by first | with_reducible exact Nat.le_refl _ | omega | (simp; done) | (simp; omega) | exact Nat.le_refl _) _ | refine Below.setCell ?_ (by first | with_reducible exact Nat.le_refl _ | omega | (simp; done) | (simp; omega) | exact Nat.le_refl _) _)) (hb.mono (by first | with_reducible exact Nat.le_refl _ | omega | (simp; done) | (simp; omega) | exact Nat.le_refl _))
    have z2 : u1.heap.size ≤ u2.heap.size := hc.size
    replace B0c0 : u2.cell? ⟨w.heap.size, 0, none⟩ = some (.int .i64 ar0) := (by rw [(bcell hc).1 _ _ B0s]; exact B0c0)
    replace B0c1 : u2.cell? ⟨w.heap.size, 1, none⟩ = some (.slice a0 n0 c0) := (by rw [(bcell hc).1 _ _ B0s]; exact B0c1)
    replace B0c2 : u2.cell? ⟨w.heap.size, 2, none⟩ = some (.slice la0 ln0 lc0) := (by rw [(bcell hc).1 _ _ B0s]; exact B0c2)
    replace B0c3 : u2.cell? ⟨w.heap.size, 3, none⟩ = some (.slice ga0 gn0 gc0) := (by rw [(bcell hc).1 _ _ B0s]; exact B0c3)
    replace B0c4 : u2.cell? ⟨w.heap.size, 4, none⟩ = some (.slice pa0 pn0 pc0) := (by rw [(bcell hc).1 _ _ B0s]; exact B0c4)
    replace B0s : w.heap.size < u2.heap.size := (by omega)
    replace DA0 : Hid (IterA false (0) w.heap.size u2 ar0 a0 n0 c0 rows0 la0 ln0 lc0 lw0 ga0 gn0 gc0 gh0 pa0 pn0 pc0 ps0) := hid (beIter DA0.out hc (by omega))
    replace HW : Hid (Below w.heap.size w u2) := hid (Below.calm HW.out hc)
    have Dp0 : Hid (IterA true (u1.heap.size) u2.heap.size u2 ar0 ap0 np0 cp0 rows0 lap0 lnp0 lcp0 lw0 gap0 gnp0 gcp0 gh0 pap0 pnp0 pcp0 ps0) := hid (wdIter ho (by first | with_reducible exact Nat.le_refl _ | omega | (simp; done) | (simp; omega) | exact Nat.le_refl _))
    clear ho hb hc
    obtain ⟨dar, hdar⟩ : ∃ x : Int, sameN ar0 = x := ⟨_, rfl⟩
    have HDar := hid hdar; clear hdar
    obtain ⟨drows, hdrows⟩ : ∃ x : List (List Int), sameR rows0 = x := ⟨_, rfl⟩
    have HDrows := hid hdrows; clear hdrows
    obtain ⟨dlw, hdlw⟩ : ∃ x : List Int, opLw ar0 rows0 lw0 gh0 ps0 = x := ⟨_, rfl⟩
    have HDlw := hid hdlw; clear hdlw
    obtain ⟨dgh, hdgh⟩ : ∃ x : List Int, opGh ar0 rows0 lw0 gh0 ps0 = x := ⟨_, rfl⟩
    have HDgh := hid hdgh; clear hdgh
    obtain ⟨dps, hdps⟩ : ∃ x : List Int, opPs ar0 rows0 lw0 gh0 ps0 = x := ⟨_, rfl⟩
    have HDps := hid hdps; clear hdps
    obtain ⟨rb, hrb⟩ : ∃ x : Bool, opOK ar0 rows0 lw0 gh0 ps0 = x := ⟨_, rfl⟩
    have hneb : ((rb : Bool) != rb) = false := by simp
    have HRB := hid hrb; clear hrb
    go_wp2_with fail
    refine (specOpen' ar0 ap0 np0 cp0 rows0 lap0 lnp0 lcp0 lw0 gap0 gnp0 gcp0 gh0 pap0 pnp0 pcp0 ps0 _ (beIter (B := u2.heap.size) Dp0.out (by repeat (first | with_reducible assumption | with_reducible exact Below.refl _ _ | with_reducible refine below_drewN ?_ _ | with_reducible refine Below.al ?_ (by first | with_reducible exact Nat.le_refl _ | omega | (simp; done) | (simp; omega) | exact Nat.le_refl _) _ | with_reducible refine Below.setCell ?_ (by first | with_reducible exact Nat.le_refl _ | omega | (simp; done) | (simp; omega) | exact Nat.le_refl _) _ | assumption | exact Below.refl _ _ | refine below_drewN ?_ _ | refine Below.al ?_ (by first | with_reducible exact Nat.le_refl _ | omega | (simp; done) | (simp; omega) | exact Nat.le_refl _) _ | refine Below.setCell ?_ (by first | with_reducible exact Nat.le_refl _ | omega | (simp; done) | (simp; omega) | exact Nat.le_refl _) _)) (by first | with_reducible exact Nat.le_refl _ | omega | (simp; done) | (simp; omega) | exact Nat.le_refl _)) (by first | with_reducible exact Nat.le_refl _ | omega | (simp; done) | (simp; omega) | exact Nat.le_refl _) HS0.out).mono ?_
    rintro e u3 ⟨aW, nW, cW, laW, lnW, lcW, gaW, gnW, gcW, paW, pnW, pcW, rfl, ho, hb⟩
    rw [HDar.out, HDrows.out, HDlw.out, HDgh.out, HDps.out] at ho; rw [HDar.out, HRB.out]
    have hc : Below u2.heap.size u2 u3 := Below.trans (by repeat (first | with_reducible assumption | with_reducible exact Below.refl _ _ | with_reducible refine below_drewN ?_ _ | with_reducible refine Below.al ?_ (by first | with_reducible exact Nat.le_refl _ | omega | (simp; done) | (simp; omega) | exact Nat.le_refl _) _ | with_reducible refine Below.setCell ?_ (by first | with_reducible exact Nat.le_refl _ | omega | (simp; done) | (simp; omega) | exact Nat.le_refl _) _ | assumption | exact Below.refl _ _ | refine below_drewN ?_ _ | refine Below.al ?_ (by first | with_reducible exact Nat.le_refl _ | omega | (simp; done) | (simp; omega) | exact Nat.le_refl _) _ | refine Below.setCell ?_ (by first | with_reducible exact Nat.le_refl _ | omega | (simp; done) | (simp; omega) | exact Nat.le_refl _) _)) (hb.mono (by first | with_reducible exact Nat.le_refl _ | omega | (simp; done) | (simp; omega) | exact Nat.le_refl _))
    have z3 : u2.heap.size ≤ u3.heap.size := hc.size
    replace B0c0 : u3.cell? ⟨w.heap.size, 0, none⟩ = some (.int .i64 ar0) := (by rw [(bcell hc).1 _ _ B0s]; exact B0c0)
    replace B0c1 : u3.cell? ⟨w.heap.size, 1, none⟩ = some (.slice a0 n0 c0) := (by rw [(bcell hc).1 _ _ B0s]; exact B0c1)
    replace B0c2 : u3.cell? ⟨w.heap.size, 2, none⟩ = some (.slice la0 ln0 lc0) := (by rw [(bcell hc).1 _ _ B0s]; exact B0c2)
    replace B0c3 : u3.cell? ⟨w.heap.size, 3, none⟩ = some (.slice ga0 gn0 gc0) := (by rw [(bcell hc).1 _ _ B0s]; exact B0c3)
    replace B0c4 : u3.cell? ⟨w.heap.size, 4, none⟩ = some (.slice pa0 pn0 pc0) := (by rw [(bcell hc).1 _ _ B0s]; exact B0c4)
    replace B0s : w.heap.size < u3.heap.size := (by omega)
    replace DA0 : Hid (IterA false (0) w.heap.size u3 ar0 a0 n0 c0 rows0 la0 ln0 lc0 lw0 ga0 gn0 gc0 gh0 pa0 pn0 pc0 ps0) := hid (beIter DA0.out hc (by omega))
    replace Dp0 : Hid (IterA true (u1.heap.size) u2.heap.size u3 ar0 ap0 np0 cp0 rows0 lap0 lnp0 lcp0 lw0 gap0 gnp0 gcp0 gh0 pap0 pnp0 pcp0 ps0) := hid (beIter Dp0.out hc (by omega))
    replace HW : Hid (Below w.heap.size w u3) := hid (Below.calm HW.out hc)
    have DW : Hid (IterA true (u2.heap.size) u3.heap.size u3 dar aW nW cW drows laW lnW lcW dlw gaW gnW gcW dgh paW pnW pcW dps) := hid (wdIter ho (by first | with_reducible exact Nat.le_refl _ | omega | (simp; done) | (simp; omega) | exact Nat.le_refl _))
    clear ho hb hc
    go_wp2_with fail
    refine (toK_Iter ar0 a0 n0 c0 rows0 la0 ln0 lc0 lw0 ga0 gn0 gc0 gh0 pa0 pn0 pc0 ps0 _ (beIter (B := u3.heap.size) DA0.out (by repeat (first | with_reducible assumption | with_reducible exact Below.refl _ _ | with_reducible refine below_drewN ?_ _ | with_reducible refine Below.al ?_ (by first | with_reducible exact Nat.le_refl _ | omega | (simp; done) | (simp; omega) | exact Nat.le_refl _) _ | with_reducible refine Below.setCell ?_ (by first | with_reducible exact Nat.le_refl _ | omega | (simp; done) | (simp; omega) | exact Nat.le_refl _) _ | assumption | exact Below.refl _ _ | refine below_drewN ?_ _ | refine Below.al ?_ (by first | with_reducible exact Nat.le_refl _ | omega | (simp; done) | (simp; omega) | exact Nat.le_refl _) _ | refine Below.setCell ?_ (by first | with_reducible exact Nat.le_refl _ | omega | (simp; done) | (simp; omega) | exact Nat.le_refl _) _)) (by first | with_reducible exact Nat.le_refl _ | omega | (simp; done) | (simp; omega) | exact Nat.le_refl _)) (by first | with_reducible exact Nat.le_refl _ | omega | (simp; done) | (simp; omega) | exact Nat.le_refl _) HS0.out).mono ?_
    rintro e u4 ⟨ax0, nx0, cx0, lax0, lnx0, lcx0, gax0, gnx0, gcx0, pax0, pnx0, pcx0, rfl, ho, hb⟩
    have hc : Below u3.heap.size u3 u4 := Below.trans (by repeat (first | with_reducible assumption | with_reducible exact Below.refl _ _ | with_reducible refine below_drewN ?_ _ | with_reducible refine Below.al ?_ (by first | with_reducible exact Nat.le_refl _ | omega | (simp; done) | (simp; omega) | exact Nat.le_refl _) _ | with_reducible refine Below.setCell ?_ (by first | with_reducible exact Nat.le_refl _ | omega | (simp; done) | (simp; omega) | exact Nat.le_refl _) _ | assumption | exact Below.refl _ _ | refine below_drewN ?_ _ | refine Below.al ?_ (by first | with_reducible exact Nat.le_refl _ | omega | (simp; done) | (simp; omega) | exact Nat.le_refl _) _ | refine Below.setCell ?_ (by first | with_reducible exact Nat.le_refl _ | omega | (simp; done) | (simp; omega) | exact Nat.le_refl _) _)) (hb.mono (by first | with_reducible exact Nat.le_refl _ | omega | (simp; done) | (simp; omega) | exact Nat.le_refl _))
    have z4 : u3.heap.size ≤ u4.heap.size := hc.size
    replace B0c0 : u4.cell? ⟨w.heap.size, 0, none⟩ = some (.int .i64 ar0) := (by rw [(bcell hc).1 _ _ B0s]; exact B0c0)
    replace B0c1 : u4.cell? ⟨w.heap.size, 1, none⟩ = some (.slice a0 n0 c0) := (by rw [(bcell hc).1 _ _ B0s]; exact B0c1)
    replace B0c2 : u4.cell? ⟨w.heap.size, 2, none⟩ = some (.slice la0 ln0 lc0) := (by rw [(bcell hc).1 _ _ B0s]; exact B0c2)
    replace B0c3 : u4.cell? ⟨w.heap.size, 3, none⟩ = some (.slice ga0 gn0 gc0) := (by rw [(bcell hc).1 _ _ B0s]; exact B0c3)
    replace B0c4 : u4.cell? ⟨w.heap.size, 4, none⟩ = some (.slice pa0 pn0 pc0) := (by rw [(bcell hc).1 _ _ B0s]; exact B0c4)
    replace B0s : w.heap.size < u4.heap.size := (by omega)
    have B1c0 : u4.cell? ⟨u3.heap.size, 0, none⟩ = some (.int .i64 dar) := (by rw [(bcell hb).1 _ _ (by first | omega | (simp; done) | (simp; omega))]; first | with_reducible assumption | (go_simp; done) | assumption | (simp [World.cell?]; done))
    have B1c1 : u4.cell? ⟨u3.heap.size, 1, none⟩ = some (.slice aW nW cW) := (by rw [(bcell hb).1 _ _ (by first | omega | (simp; done) | (simp; omega))]; first | with_reducible assumption | (go_simp; done) | assumption | (simp [World.cell?]; done))
    have B1c2 : u4.cell? ⟨u3.heap.size, 2, none⟩ = some (.slice laW lnW lcW) := (by rw [(bcell hb).1 _ _ (by first | omega | (simp; done) | (simp; omega))]; first | with_reducible assumption | (go_simp; done) | assumption | (simp [World.cell?]; done))
    have B1c3 : u4.cell? ⟨u3.heap.size, 3, none⟩ = some (.slice gaW gnW gcW) := (by rw [(bcell hb).1 _ _ (by first | omega | (simp; done) | (simp; omega))]; first | with_reducible assumption | (go_simp; done) | assumption | (simp [World.cell?]; done))
    have B1c4 : u4.cell? ⟨u3.heap.size, 4, none⟩ = some (.slice paW pnW pcW) := (by rw [(bcell hb).1 _ _ (by first | omega | (simp; done) | (simp; omega))]; first | with_reducible assumption | (go_simp; done) | assumption | (simp [World.cell?]; done))
    have B1p : u3.heap.size < u4.heap.size := World.block_lt_of_cell? _ _ B1c0
    have B1s : u3.heap.size < u4.heap.size := B1p
    replace DA0 : Hid (IterA false (0) w.heap.size u4 ar0 a0 n0 c0 rows0 la0 ln0 lc0 lw0 ga0 gn0 gc0 gh0 pa0 pn0 pc0 ps0) := hid (beIter DA0.out hc (by omega))
    replace DW : Hid (IterA true (u2.heap.size) u3.heap.size u4 dar aW nW cW drows laW lnW lcW dlw gaW gnW gcW dgh paW pnW pcW dps) := hid (beIter DW.out hc (by omega))
    replace HW : Hid (Below w.heap.size w u4) := hid (Below.calm HW.out hc)
    have Dx0 : Hid (IterA true (u3.heap.size + 1) u4.heap.size u4 ar0 ax0 nx0 cx0 rows0 lax0 lnx0 lcx0 lw0 gax0 gnx0 gcx0 gh0 pax0 pnx0 pcx0 ps0) := hid (wdIter ho (by first | with_reducible exact Nat.le_refl _ | omega | (simp; done) | (simp; omega) | exact Nat.le_refl _))
    clear ho hb hc
    go_wp2_with fail
    refine (implOpen' ar0 ax0 nx0 cx0 rows0 lax0 lnx0 lcx0 lw0 gax0 gnx0 gcx0 gh0 pax0 pnx0 pcx0 ps0 _ (beIter (B := u4.heap.size) Dx0.out (by repeat (first | with_reducible assumption | with_reducible exact Below.refl _ _ | with_reducible refine below_drewN ?_ _ | with_reducible refine Below.al ?_ (by first | with_reducible exact Nat.le_refl _ | omega | (simp; done) | (simp; omega) | exact Nat.le_refl _) _ | with_reducible refine Below.setCell ?_ (by first | with_reducible exact Nat.le_refl _ | omega | (simp; done) | (simp; omega) | exact Nat.le_refl _) _ | assumption | exact Below.refl _ _ | refine below_drewN ?_ _ | refine Below.al ?_ (by first | with_reducible exact Nat.le_refl _ | omega | (simp; done) | (simp; omega) | exact Nat.le_refl _) _ | refine Below.setCell ?_ (by first | with_reducible exact Nat.le_refl _ | omega | (simp; done) | (simp; omega) | exact Nat.le_refl _) _)) (by first | with_reducible exact Nat.le_refl _ | omega | (simp; done) | (simp; omega) | exact Nat.le_refl _)) (by first | with_reducible exact Nat.le_refl _ | omega | (simp; done) | (simp; omega) | exact Nat.le_refl _) HS0.out).mono ?_
    rintro e u5 ⟨aG, nG, cG, laG, lnG, lcG, gaG, gnG, gcG, paG, pnG, pcG, rfl, ho, hb⟩
    rw [HDar.out, HDrows.out, HDlw.out, HDgh.out, HDps.out] at ho; rw [HDar.out, HRB.out]
    have hc : Below u4.heap.size u4 u5 := Below.trans (by repeat (first | with_reducible assumption | with_reducible exact Below.refl _ _ | with_reducible refine below_drewN ?_ _ | with_reducible refine Below.al ?_ (by first | with_reducible exact Nat.le_refl _ | omega | (simp; done) | (simp; omega) | exact Nat.le_refl _) _ | with_reducible refine Below.setCell ?_ (by first | with_reducible exact Nat.le_refl _ | omega | (simp; done) | (simp; omega) | exact Nat.le_refl _) _ | assumption | exact Below.refl _ _ | refine below_drewN ?_ _ | refine Below.al ?_ (by first | with_reducible exact Nat.le_refl _ | omega | (simp; done) | (simp; omega) | exact Nat.le_refl _) _ | refine Below.setCell ?_ (by first | with_reducible exact Nat.le_refl _ | omega | (simp; done) | (simp; omega) | exact Nat.le_refl _) _)) (hb.mono (by first | with_reducible exact Nat.le_refl _ | omega | (simp; done) | (simp; omega) | exact Nat.le_refl _))
    have z5 : u4.heap.size ≤ u5.heap.size := hc.size
    replace B0c0 : u5.cell? ⟨w.heap.size, 0, none⟩ = some (.int .i64 ar0) := (by rw [(bcell hc).1 _ _ B0s]; exact B0c0)
    replace B0c1 : u5.cell? ⟨w.heap.size, 1, none⟩ = some (.slice a0 n0 c0) := (by rw [(bcell hc).1 _ _ B0s]; exact B0c1)
    replace B0c2 : u5.cell? ⟨w.heap.size, 2, none⟩ = some (.slice la0 ln0 lc0) := (by rw [(bcell hc).1 _ _ B0s]; exact B0c2)
    replace B0c3 : u5.cell? ⟨w.heap.size, 3, none⟩ = some (.slice ga0 gn0 gc0) := (by rw [(bcell hc).1 _ _ B0s]; exact B0c3)
    replace B0c4 : u5.cell? ⟨w.heap.size, 4, none⟩ = some (.slice pa0 pn0 pc0) := (by rw [(bcell hc).1 _ _ B0s]; exact B0c4)
    replace B0s : w.heap.size < u5.heap.size := (by omega)
    replace B1c0 : u5.cell? ⟨u3.heap.size, 0, none⟩ = some (.int .i64 dar) := (by rw [(bcell hc).1 _ _ B1s]; exact B1c0)
    replace B1c1 : u5.cell? ⟨u3.heap.size, 1, none⟩ = some (.slice aW nW cW) := (by rw [(bcell hc).1 _ _ B1s]; exact B1c1)
    replace B1c2 : u5.cell? ⟨u3.heap.size, 2, none⟩ = some (.slice laW lnW lcW) := (by rw [(bcell hc).1 _ _ B1s]; exact B1c2)
    replace B1c3 : u5.cell? ⟨u3.heap.size, 3, none⟩ = some (.slice gaW gnW gcW) := (by rw [(bcell hc).1 _ _ B1s]; exact B1c3)
    replace B1c4 : u5.cell? ⟨u3.heap.size, 4, none⟩ = some (.slice paW pnW pcW) := (by rw [(bcell hc).1 _ _ B1s]; exact B1c4)
    replace B1s : u3.heap.size < u5.heap.size := (by omega)
    have B2c0 : u5.cell? ⟨u4.heap.size, 0, none⟩ = some (.int .i64 ar0) := (by rw [(bcell hb).1 _ _ (by first | omega | (simp; done) | (simp; omega))]; first | with_reducible assumption | (go_simp; done) | assumption | (simp [World.cell?]; done))
    have B2c1 : u5.cell? ⟨u4.heap.size, 1, none⟩ = some (.slice ax0 nx0 cx0) := (by rw [(bcell hb).1 _ _ (by first | omega | (simp; done) | (simp; omega))]; first | with_reducible assumption | (go_simp; done) | assumption | (simp [World.cell?]; done))
    have B2c2 : u5.cell? ⟨u4.heap.size, 2, none⟩ = some (.slice lax0 lnx0 lcx0) := (by rw [(bcell hb).1 _ _ (by first | omega | (simp; done) | (simp; omega))]; first | with_reducible assumption | (go_simp; done) | assumption | (simp [World.cell?]; done))
    have B2c3 : u5.cell? ⟨u4.heap.size, 3, none⟩ = some (.slice gax0 gnx0 gcx0) := (by rw [(bcell hb).1 _ _ (by first | omega | (simp; done) | (simp; omega))]; first | with_reducible assumption | (go_simp; done) | assumption | (simp [World.cell?]; done))
    have B2c4 : u5.cell? ⟨u4.heap.size, 4, none⟩ = some (.slice pax0 pnx0 pcx0) := (by rw [(bcell hb).1 _ _ (by first | omega | (simp; done) | (simp; omega))]; first | with_reducible assumption | (go_simp; done) | assumption | (simp [World.cell?]; done))
    have B2p : u4.heap.size < u5.heap.size := World.block_lt_of_cell? _ _ B2c0
    have B2s : u4.heap.size < u5.heap.size := B2p
    replace DA0 : Hid (IterA false (0) w.heap.size u5 ar0 a0 n0 c0 rows0 la0 ln0 lc0 lw0 ga0 gn0 gc0 gh0 pa0 pn0 pc0 ps0) := hid (beIter DA0.out hc (by omega))
    replace DW : Hid (IterA true (u2.heap.size) u3.heap.size u5 dar aW nW cW drows laW lnW lcW dlw gaW gnW gcW dgh paW pnW pcW dps) := hid (beIter DW.out hc (by omega))
    replace Dx0 : Hid (IterA true (u3.heap.size + 1) u4.heap.size u5 ar0 ax0 nx0 cx0 rows0 lax0 lnx0 lcx0 lw0 gax0 gnx0 gcx0 gh0 pax0 pnx0 pcx0 ps0) := hid (beIter Dx0.out hc (by omega))
    replace HW : Hid (Below w.heap.size w u5) := hid (Below.calm HW.out hc)
    have DG : Hid (IterS (u4.heap.size + 1) u5.heap.size u5 dar aG nG cG drows laG lnG lcG dlw gaG gnG gcG dgh paG pnG pcG dps) := hid (wdIterS ho (by first | with_reducible exact Nat.le_refl _ | omega | (simp; done) | (simp; omega) | exact Nat.le_refl _))
    clear ho hb hc
    go_wp2_with fail
    refine (eqK_Iter dar aG nG cG drows laG lnG lcG dlw gaG gnG gcG dgh paG pnG pcG dps aW nW cW laW lnW lcW gaW gnW gcW paW pnW pcW _ ((beIterS (B := u5.heap.size) DG.out (by repeat (first | with_reducible assumption | with_reducible exact Below.refl _ _ | with_reducible refine below_drewN ?_ _ | with_reducible refine Below.al ?_ (by first | with_reducible exact Nat.le_refl _ | omega | (simp; done) | (simp; omega) | exact Nat.le_refl _) _ | with_reducible refine Below.setCell ?_ (by first | with_reducible exact Nat.le_refl _ | omega | (simp; done) | (simp; omega) | exact Nat.le_refl _) _ | assumption | exact Below.refl _ _ | refine below_drewN ?_ _ | refine Below.al ?_ (by first | with_reducible exact Nat.le_refl _ | omega | (simp; done) | (simp; omega) | exact Nat.le_refl _) _ | refine Below.setCell ?_ (by first | with_reducible exact Nat.le_refl _ | omega | (simp; done) | (simp; omega) | exact Nat.le_refl _) _)) (by first | with_reducible exact Nat.le_refl _ | omega | (simp; done) | (simp; omega) | exact Nat.le_refl _))).it (by first | with_reducible exact Nat.le_refl _ | omega | (simp; done) | (simp; omega) | exact Nat.le_refl _) (beIter (B := u5.heap.size) DW.out (by repeat (first | with_reducible assumption | with_reducible exact Below.refl _ _ | with_reducible refine below_drewN ?_ _ | with_reducible refine Below.al ?_ (by first | with_reducible exact Nat.le_refl _ | omega | (simp; done) | (simp; omega) | exact Nat.le_refl _) _ | with_reducible refine Below.setCell ?_ (by first | with_reducible exact Nat.le_refl _ | omega | (simp; done) | (simp; omega) | exact Nat.le_refl _) _ | assumption | exact Below.refl _ _ | refine below_drewN ?_ _ | refine Below.al ?_ (by first | with_reducible exact Nat.le_refl _ | omega | (simp; done) | (simp; omega) | exact Nat.le_refl _) _ | refine Below.setCell ?_ (by first | with_reducible exact Nat.le_refl _ | omega | (simp; done) | (simp; omega) | exact Nat.le_refl _) _)) (by first | with_reducible exact Nat.le_refl _ | omega | (simp; done) | (simp; omega) | exact Nat.le_refl _)) (by first | with_reducible exact Nat.le_refl _ | omega | (simp; done) | (simp; omega) | exact Nat.le_refl _)).mono ?_
    rintro e u6 ⟨rfl, hb⟩
    have hc : Below u5.heap.size u5 u6 := Below.trans (by repeat (first | with_reducible assumption | with_reducible exact Below.refl _ _ | with_reducible refine below_drewN ?_ _ | with_reducible refine Below.al ?_ (by first | with_reducible exact Nat.le_refl _ | omega | (simp; done) | (simp; omega) | exact Nat.le_refl _) _ | with_reducible refine Below.setCell ?_ (by first | with_reducible exact Nat.le_refl _ | omega | (simp; done) | (simp; omega) | exact Nat.le_refl _) _ | assumption | exact Below.refl _ _ | refine below_drewN ?_ _ | refine Below.al ?_ (by first | with_reducible exact Nat.le_refl _ | omega | (simp; done) | (simp; omega) | exact Nat.le_refl _) _ | refine Below.setCell ?_ (by first | with_reducible exact Nat.le_refl _ | omega | (simp; done) | (simp; omega) | exact Nat.le_refl _) _)) (hb.mono (by first | with_reducible exact Nat.le_refl _ | omega | (simp; done) | (simp; omega) | exact Nat.le_refl _))
    have z6 : u5.heap.size ≤ u6.heap.size := hc.size
    replace B0c0 : u6.cell? ⟨w.heap.size, 0, none⟩ = some (.int .i64 ar0) := (by rw [(bcell hc).1 _ _ B0s]; exact B0c0)
    replace B0c1 : u6.cell? ⟨w.heap.size, 1, none⟩ = some (.slice a0 n0 c0) := (by rw [(bcell hc).1 _ _ B0s]; exact B0c1)
    replace B0c2 : u6.cell? ⟨w.heap.size, 2, none⟩ = some (.slice la0 ln0 lc0) := (by rw [(bcell hc).1 _ _ B0s]; exact B0c2)
    replace B0c3 : u6.cell? ⟨w.heap.size, 3, none⟩ = some (.slice ga0 gn0 gc0) := (by rw [(bcell hc).1 _ _ B0s]; exact B0c3)
    replace B0c4 : u6.cell? ⟨w.heap.size, 4, none⟩ = some (.slice pa0 pn0 pc0) := (by rw [(bcell hc).1 _ _ B0s]; exact B0c4)
    replace B0s : w.heap.size < u6.heap.size := (by omega)
    replace B1c0 : u6.cell? ⟨u3.heap.size, 0, none⟩ = some (.int .i64 dar) := (by rw [(bcell hc).1 _ _ B1s]; exact B1c0)
    replace B1c1 : u6.cell? ⟨u3.heap.size, 1, none⟩ = some (.slice aW nW cW) := (by rw [(bcell hc).1 _ _ B1s]; exact B1c1)
    replace B1c2 : u6.cell? ⟨u3.heap.size, 2, none⟩ = some (.slice laW lnW lcW) := (by rw [(bcell hc).1 _ _ B1s]; exact B1c2)
    replace B1c3 : u6.cell? ⟨u3.heap.size, 3, none⟩ = some (.slice gaW gnW gcW) := (by rw [(bcell hc).1 _ _ B1s]; exact B1c3)
    replace B1c4 : u6.cell? ⟨u3.heap.size, 4, none⟩ = some (.slice paW pnW pcW) := (by rw [(bcell hc).1 _ _ B1s]; exact B1c4)
    replace B1s : u3.heap.size < u6.heap.size := (by omega)
    replace B2c0 : u6.cell? ⟨u4.heap.size, 0, none⟩ = some (.int .i64 ar0) := (by rw [(bcell hc).1 _ _ B2s]; exact B2c0)
    replace B2c1 : u6.cell? ⟨u4.heap.size, 1, none⟩ = some (.slice ax0 nx0 cx0) := (by rw [(bcell hc).1 _ _ B2s]; exact B2c1)
    replace B2c2 : u6.cell? ⟨u4.heap.size, 2, none⟩ = some (.slice lax0 lnx0 lcx0) := (by rw [(bcell hc).1 _ _ B2s]; exact B2c2)
    replace B2c3 : u6.cell? ⟨u4.heap.size, 3, none⟩ = some (.slice gax0 gnx0 gcx0) := (by rw [(bcell hc).1 _ _ B2s]; exact B2c3)
    replace B2c4 : u6.cell? ⟨u4.heap.size, 4, none⟩ = some (.slice pax0 pnx0 pcx0) := (by rw [(bcell hc).1 _ _ B2s]; exact B2c4)
    replace B2s : u4.heap.size < u6.heap.size := (by omega)
    have B3c0 : u6.cell? ⟨u5.heap.size, 0, none⟩ = some (.int .i64 dar) := (by rw [(bcell hb).1 _ _ (by first | omega | (simp; done) | (simp; omega))]; first | with_reducible assumption | (go_simp; done) | assumption | (simp [World.cell?]; done))
    have B3c1 : u6.cell? ⟨u5.heap.size, 1, none⟩ = some (.slice aG nG cG) := (by rw [(bcell hb).1 _ _ (by first | omega | (simp; done) | (simp; omega))]; first | with_reducible assumption | (go_simp; done) | assumption | (simp [World.cell?]; done))
    have B3c2 : u6.cell? ⟨u5.heap.size, 2, none⟩ = some (.slice laG lnG lcG) := (by rw [(bcell hb).1 _ _ (by first | omega | (simp; done) | (simp; omega))]; first | with_reducible assumption | (go_simp; done) | assumption | (simp [World.cell?]; done))
    have B3c3 : u6.cell? ⟨u5.heap.size, 3, none⟩ = some (.slice gaG gnG gcG) := (by rw [(bcell hb).1 _ _ (by first | omega | (simp; done) | (simp; omega))]; first | with_reducible assumption | (go_simp; done) | assumption | (simp [World.cell?]; done))
    have B3c4 : u6.cell? ⟨u5.heap.size, 4, none⟩ = some (.slice paG pnG pcG) := (by rw [(bcell hb).1 _ _ (by first | omega | (simp; done) | (simp; omega))]; first | with_reducible assumption | (go_simp; done) | assumption | (simp [World.cell?]; done))
    have B3p : u5.heap.size < u6.heap.size := World.block_lt_of_cell? _ _ B3c0
    have B3s : u5.heap.size < u6.heap.size := B3p
    replace DA0 : Hid (IterA false (0) w.heap.size u6 ar0 a0 n0 c0 rows0 la0 ln0 lc0 lw0 ga0 gn0 gc0 gh0 pa0 pn0 pc0 ps0) := hid (beIter DA0.out hc (by omega))
    replace DW : Hid (IterA true (u2.heap.size) u3.heap.size u6 dar aW nW cW drows laW lnW lcW dlw gaW gnW gcW dgh paW pnW pcW dps) := hid (beIter DW.out hc (by omega))
    replace Dx0 : Hid (IterA true (u3.heap.size + 1) u4.heap.size u6 ar0 ax0 nx0 cx0 rows0 lax0 lnx0 lcx0 lw0 gax0 gnx0 gcx0 gh0 pax0 pnx0 pcx0 ps0) := hid (beIter Dx0.out hc (by omega))
    replace DG : Hid (IterS (u4.heap.size + 1) u5.heap.size u6 dar aG nG cG drows laG lnG lcG dlw gaG gnG gcG dgh paG pnG pcG dps) := hid (beIterS DG.out hc (by omega))
    replace HW : Hid (Below w.heap.size w u6) := hid (Below.calm HW.out hc)
    clear hb hc
    go_wp2_with fail
    go_region_held3 (fun w' => w'.cell? ⟨w.heap.size, 0, none⟩ = some (.int .i64 ar0) ∧ w'.cell? ⟨w.heap.size, 1, none⟩ = some (.slice a0 n0 c0) ∧ w'.cell? ⟨w.heap.size, 2, none⟩ = some (.slice la0 ln0 lc0) ∧ w'.cell? ⟨w.heap.size, 3, none⟩ = some (.slice ga0 gn0 gc0) ∧ w'.cell? ⟨w.heap.size, 4, none⟩ = some (.slice pa0 pn0 pc0) ∧ w'.cell? ⟨u3.heap.size, 0, none⟩ = some (.int .i64 dar) ∧ w'.cell? ⟨u3.heap.size, 1, none⟩ = some (.slice aW nW cW) ∧ w'.cell? ⟨u3.heap.size, 2, none⟩ = some (.slice laW lnW lcW) ∧ w'.cell? ⟨u3.heap.size, 3, none⟩ = some (.slice gaW gnW gcW) ∧ w'.cell? ⟨u3.heap.size, 4, none⟩ = some (.slice paW pnW pcW) ∧ w'.cell? ⟨u4.heap.size, 0, none⟩ = some (.int .i64 ar0) ∧ w'.cell? ⟨u4.heap.size, 1, none⟩ = some (.slice ax0 nx0 cx0) ∧ w'.cell? ⟨u4.heap.size, 2, none⟩ = some (.slice lax0 lnx0 lcx0) ∧ w'.cell? ⟨u4.heap.size, 3, none⟩ = some (.slice gax0 gnx0 gcx0) ∧ w'.cell? ⟨u4.heap.size, 4, none⟩ = some (.slice pax0 pnx0 pcx0) ∧ w'.cell? ⟨u5.heap.size, 0, none⟩ = some (.int .i64 dar) ∧ w'.cell? ⟨u5.heap.size, 1, none⟩ = some (.slice aG nG cG) ∧ w'.cell? ⟨u5.heap.size, 2, none⟩ = some (.slice laG lnG lcG) ∧ w'.cell? ⟨u5.heap.size, 3, none⟩ = some (.slice gaG gnG gcG) ∧ w'.cell? ⟨u5.heap.size, 4, none⟩ = some (.slice paG pnG pcG)) (refine ⟨?_, ?_, ?_, ?_, ?_, ?_, ?_, ?_, ?_, ?_, ?_, ?_, ?_, ?_, ?_, ?_, ?_, ?_, ?_, ?_⟩ <;> assumption)
      (first | (go_at_call 19; refine (toK_Iter ar0 a0 n0 c0 rows0 la0 ln0 lc0 lw0 ga0 gn0 gc0 gh0 pa0 pn0 pc0 ps0 _ (beIter (B := u6.heap.size) DA0.out (by repeat (first | with_reducible assumption | with_reducible exact Below.refl _ _ | with_reducible refine below_drewN ?_ _ | with_reducible refine Below.al ?_ (by first | with_reducible exact Nat.le_refl _ | omega | (simp; done) | (simp; omega) | exact Nat.le_refl _) _ | with_reducible refine Below.setCell ?_ (by first | with_reducible exact Nat.le_refl _ | omega | (simp; done) | (simp; omega) | exact Nat.le_refl _) _ | assumption | exact Below.refl _ _ | refine below_drewN ?_ _ | refine Below.al ?_ (by first | with_reducible exact Nat.le_refl _ | omega | (simp; done) | (simp; omega) | exact Nat.le_refl _) _ | refine Below.setCell ?_ (by first | with_reducible exact Nat.le_refl _ | omega | (simp; done) | (simp; omega) | exact Nat.le_refl _) _)) (by first | with_reducible exact Nat.le_refl _ | omega | (simp; done) | (simp; omega) | exact Nat.le_refl _)) (by first | with_reducible exact Nat.le_refl _ | omega | (simp; done) | (simp; omega) | exact Nat.le_refl _) HS0.out).mono ?_; rintro e u7 ⟨ay0, ny0, cy0, lay0, lny0, lcy0, gay0, gny0, gcy0, pay0, pny0, pcy0, rfl, ho, hb⟩; have hc : Below u6.heap.size u6 u7 := Below.trans (by repeat (first | with_reducible assumption | with_reducible exact Below.refl _ _ | with_reducible refine below_drewN ?_ _ | with_reducible refine Below.al ?_ (by first | with_reducible exact Nat.le_refl _ | omega | (simp; done) | (simp; omega) | exact Nat.le_refl _) _ | with_reducible refine Below.setCell ?_ (by first | with_reducible exact Nat.le_refl _ | omega | (simp; done) | (simp; omega) | exact Nat.le_refl _) _ | assumption | exact Below.refl _ _ | refine below_drewN ?_ _ | refine Below.al ?_ (by first | with_reducible exact Nat.le_refl _ | omega | (simp; done) | (simp; omega) | exact Nat.le_refl _) _ | refine Below.setCell ?_ (by first | with_reducible exact Nat.le_refl _ | omega | (simp; done) | (simp; omega) | exact Nat.le_refl _) _)) (hb.mono (by first | with_reducible exact Nat.le_refl _ | omega | (simp; done) | (simp; omega) | exact Nat.le_refl _)); have z7 : u6.heap.size ≤ u7.heap.size := hc.size; replace B0c0 : u7.cell? ⟨w.heap.size, 0, none⟩ = some (.int .i64 ar0) := (by rw [(bcell hc).1 _ _ B0s]; exact B0c0); replace B0c1 : u7.cell? ⟨w.heap.size, 1, none⟩ = some (.slice a0 n0 c0) := (by rw [(bcell hc).1 _ _ B0s]; exact B0c1); replace B0c2 : u7.cell? ⟨w.heap.size, 2, none⟩ = some (.slice la0 ln0 lc0) := (by rw [(bcell hc).1 _ _ B0s]; exact B0c2); replace B0c3 : u7.cell? ⟨w.heap.size, 3, none⟩ = some (.slice ga0 gn0 gc0) := (by rw [(bcell hc).1 _ _ B0s]; exact B0c3); replace B0c4 : u7.cell? ⟨w.heap.size, 4, none⟩ = some (.slice pa0 pn0 pc0) := (by rw [(bcell hc).1 _ _ B0s]; exact B0c4); replace B0s : w.heap.size < u7.heap.size := (by omega); replace B1c0 : u7.cell? ⟨u3.heap.size, 0, none⟩ = some (.int .i64 dar) := (by rw [(bcell hc).1 _ _ B1s]; exact B1c0); replace B1c1 : u7.cell? ⟨u3.heap.size, 1, none⟩ = some (.slice aW nW cW) := (by rw [(bcell hc).1 _ _ B1s]; exact B1c1); replace B1c2 : u7.cell? ⟨u3.heap.size, 2, none⟩ = some (.slice laW lnW lcW) := (by rw [(bcell hc).1 _ _ B1s]; exact B1c2); replace B1c3 : u7.cell? ⟨u3.heap.size, 3, none⟩ = some (.slice gaW gnW gcW) := (by rw [(bcell hc).1 _ _ B1s]; exact B1c3); replace B1c4 : u7.cell? ⟨u3.heap.size, 4, none⟩ = some (.slice paW pnW pcW) := (by rw [(bcell hc).1 _ _ B1s]; exact B1c4); replace B1s : u3.heap.size < u7.heap.size := (by omega); replace B2c0 : u7.cell? ⟨u4.heap.size, 0, none⟩ = some (.int .i64 ar0) := (by rw [(bcell hc).1 _ _ B2s]; exact B2c0); replace B2c1 : u7.cell? ⟨u4.heap.size, 1, none⟩ = some (.slice ax0 nx0 cx0) := (by rw [(bcell hc).1 _ _ B2s]; exact B2c1); replace B2c2 : u7.cell? ⟨u4.heap.size, 2, none⟩ = some (.slice lax0 lnx0 lcx0) := (by rw [(bcell hc).1 _ _ B2s]; exact B2c2); replace B2c3 : u7.cell? ⟨u4.heap.size, 3, none⟩ = some (.slice gax0 gnx0 gcx0) := (by rw [(bcell hc).1 _ _ B2s]; exact B2c3); replace B2c4 : u7.cell? ⟨u4.heap.size, 4, none⟩ = some (.slice pax0 pnx0 pcx0) := (by rw [(bcell hc).1 _ _ B2s]; exact B2c4); replace B2s : u4.heap.size < u7.heap.size := (by omega); replace B3c0 : u7.cell? ⟨u5.heap.size, 0, none⟩ = some (.int .i64 dar) := (by rw [(bcell hc).1 _ _ B3s]; exact B3c0); replace B3c1 : u7.cell? ⟨u5.heap.size, 1, none⟩ = some (.slice aG nG cG) := (by rw [(bcell hc).1 _ _ B3s]; exact B3c1); replace B3c2 : u7.cell? ⟨u5.heap.size, 2, none⟩ = some (.slice laG lnG lcG) := (by rw [(bcell hc).1 _ _ B3s]; exact B3c2); replace B3c3 : u7.cell? ⟨u5.heap.size, 3, none⟩ = some (.slice gaG gnG gcG) := (by rw [(bcell hc).1 _ _ B3s]; exact B3c3); replace B3c4 : u7.cell? ⟨u5.heap.size, 4, none⟩ = some (.slice paG pnG pcG) := (by rw [(bcell hc).1 _ _ B3s]; exact B3c4); replace B3s : u5.heap.size < u7.heap.size := (by omega); replace DA0 : Hid (IterA false (0) w.heap.size u7 ar0 a0 n0 c0 rows0 la0 ln0 lc0 lw0 ga0 gn0 gc0 gh0 pa0 pn0 pc0 ps0) := hid (beIter DA0.out hc (by omega)); replace DW : Hid (IterA true (u2.heap.size) u3.heap.size u7 dar aW nW cW drows laW lnW lcW dlw gaW gnW gcW dgh paW pnW pcW dps) := hid (beIter DW.out hc (by omega)); replace Dx0 : Hid (IterA true (u3.heap.size + 1) u4.heap.size u7 ar0 ax0 nx0 cx0 rows0 lax0 lnx0 lcx0 lw0 gax0 gnx0 gcx0 gh0 pax0 pnx0 pcx0 ps0) := hid (beIter Dx0.out hc (by omega)); replace DG : Hid (IterS (u4.heap.size + 1) u5.heap.size u7 dar aG nG cG drows laG lnG lcG dlw gaG gnG gcG dgh paG pnG pcG dps) := hid (beIterS DG.out hc (by omega)); replace HW : Hid (Below w.heap.size w u7) := hid (Below.calm HW.out hc); have Dy0 : Hid (IterA true (u6.heap.size) u7.heap.size u7 ar0 ay0 ny0 cy0 rows0 lay0 lny0 lcy0 lw0 gay0 gny0 gcy0 gh0 pay0 pny0 pcy0 ps0) := hid (wdIter ho (by first | with_reducible exact Nat.le_refl _ | omega | (simp; done) | (simp; omega) | exact Nat.le_refl _)); clear ho hb hc) | (go_at_call 12; refine (eqK_Iter ar0 ax0 nx0 cx0 rows0 lax0 lnx0 lcx0 lw0 gax0 gnx0 gcx0 gh0 pax0 pnx0 pcx0 ps0 ay0 ny0 cy0 lay0 lny0 lcy0 gay0 gny0 gcy0 pay0 pny0 pcy0 _ (beIter (B := u7.heap.size) Dx0.out (by repeat (first | with_reducible assumption | with_reducible exact Below.refl _ _ | with_reducible refine below_drewN ?_ _ | with_reducible refine Below.al ?_ (by first | with_reducible exact Nat.le_refl _ | omega | (simp; done) | (simp; omega) | exact Nat.le_refl _) _ | with_reducible refine Below.setCell ?_ (by first | with_reducible exact Nat.le_refl _ | omega | (simp; done) | (simp; omega) | exact Nat.le_refl _) _ | assumption | exact Below.refl _ _ | refine below_drewN ?_ _ | refine Below.al ?_ (by first | with_reducible exact Nat.le_refl _ | omega | (simp; done) | (simp; omega) | exact Nat.le_refl _) _ | refine Below.setCell ?_ (by first | with_reducible exact Nat.le_refl _ | omega | (simp; done) | (simp; omega) | exact Nat.le_refl _) _)) (by first | with_reducible exact Nat.le_refl _ | omega | (simp; done) | (simp; omega) | exact Nat.le_refl _)) (by first | with_reducible exact Nat.le_refl _ | omega | (simp; done) | (simp; omega) | exact Nat.le_refl _) (beIter (B := u7.heap.size) Dy0.out (by repeat (first | with_reducible assumption | with_reducible exact Below.refl _ _ | with_reducible refine below_drewN ?_ _ | with_reducible refine Below.al ?_ (by first | with_reducible exact Nat.le_refl _ | omega | (simp; done) | (simp; omega) | exact Nat.le_refl _) _ | with_reducible refine Below.setCell ?_ (by first | with_reducible exact Nat.le_refl _ | omega | (simp; done) | (simp; omega) | exact Nat.le_refl _) _ | assumption | exact Below.refl _ _ | refine below_drewN ?_ _ | refine Below.al ?_ (by first | with_reducible exact Nat.le_refl _ | omega | (simp; done) | (simp; omega) | exact Nat.le_refl _) _ | refine Below.setCell ?_ (by first | with_reducible exact Nat.le_refl _ | omega | (simp; done) | (simp; omega) | exact Nat.le_refl _) _)) (by first | with_reducible exact Nat.le_refl _ | omega | (simp; done) | (simp; omega) | exact Nat.le_refl _)) (by first | with_reducible exact Nat.le_refl _ | omega | (simp; done) | (simp; omega) | exact Nat.le_refl _)).mono ?_; rintro e u8 ⟨rfl, hb⟩; have hc : Below u7.heap.size u7 u8 := Below.trans (by repeat (first | with_reducible assumption | with_reducible exact Below.refl _ _ | with_reducible refine below_drewN ?_ _ | with_reducible refine Below.al ?_ (by first | with_reducible exact Nat.le_refl _ | omega | (simp; done) | (simp; omega) | exact Nat.le_refl _) _ | with_reducible refine Below.setCell ?_ (by first | with_reducible exact Nat.le_refl _ | omega | (simp; done) | (simp; omega) | exact Nat.le_refl _) _ | assumption | exact Below.refl _ _ | refine below_drewN ?_ _ | refine Below.al ?_ (by first | with_reducible exact Nat.le_refl _ | omega | (simp; done) | (simp; omega) | exact Nat.le_refl _) _ | refine Below.setCell ?_ (by first | with_reducible exact Nat.le_refl _ | omega | (simp; done) | (simp; omega) | exact Nat.le_refl _) _)) (hb.mono (by first | with_reducible exact Nat.le_refl _ | omega | (simp; done) | (simp; omega) | exact Nat.le_refl _)); have z8 : u7.heap.size ≤ u8.heap.size := hc.size; replace B0c0 : u8.cell? ⟨w.heap.size, 0, none⟩ = some (.int .i64 ar0) := (by rw [(bcell hc).1 _ _ B0s]; exact B0c0); replace B0c1 : u8.cell? ⟨w.heap.size, 1, none⟩ = some (.slice a0 n0 c0) := (by rw [(bcell hc).1 _ _ B0s]; exact B0c1); replace B0c2 : u8.cell? ⟨w.heap.size, 2, none⟩ = some (.slice la0 ln0 lc0) := (by rw [(bcell hc).1 _ _ B0s]; exact B0c2); replace B0c3 : u8.cell? ⟨w.heap.size, 3, none⟩ = some (.slice ga0 gn0 gc0) := (by rw [(bcell hc).1 _ _ B0s]; exact B0c3); replace B0c4 : u8.cell? ⟨w.heap.size, 4, none⟩ = some (.slice pa0 pn0 pc0) := (by rw [(bcell hc).1 _ _ B0s]; exact B0c4); replace B0s : w.heap.size < u8.heap.size := (by omega); replace B1c0 : u8.cell? ⟨u3.heap.size, 0, none⟩ = some (.int .i64 dar) := (by rw [(bcell hc).1 _ _ B1s]; exact B1c0); replace B1c1 : u8.cell? ⟨u3.heap.size, 1, none⟩ = some (.slice aW nW cW) := (by rw [(bcell hc).1 _ _ B1s]; exact B1c1); replace B1c2 : u8.cell? ⟨u3.heap.size, 2, none⟩ = some (.slice laW lnW lcW) := (by rw [(bcell hc).1 _ _ B1s]; exact B1c2); replace B1c3 : u8.cell? ⟨u3.heap.size, 3, none⟩ = some (.slice gaW gnW gcW) := (by rw [(bcell hc).1 _ _ B1s]; exact B1c3); replace B1c4 : u8.cell? ⟨u3.heap.size, 4, none⟩ = some (.slice paW pnW pcW) := (by rw [(bcell hc).1 _ _ B1s]; exact B1c4); replace B1s : u3.heap.size < u8.heap.size := (by omega); replace B2c0 : u8.cell? ⟨u4.heap.size, 0, none⟩ = some (.int .i64 ar0) := (by rw [(bcell hc).1 _ _ B2s]; exact B2c0); replace B2c1 : u8.cell? ⟨u4.heap.size, 1, none⟩ = some (.slice ax0 nx0 cx0) := (by rw [(bcell hc).1 _ _ B2s]; exact B2c1); replace B2c2 : u8.cell? ⟨u4.heap.size, 2, none⟩ = some (.slice lax0 lnx0 lcx0) := (by rw [(bcell hc).1 _ _ B2s]; exact B2c2); replace B2c3 : u8.cell? ⟨u4.heap.size, 3, none⟩ = some (.slice gax0 gnx0 gcx0) := (by rw [(bcell hc).1 _ _ B2s]; exact B2c3); replace B2c4 : u8.cell? ⟨u4.heap.size, 4, none⟩ = some (.slice pax0 pnx0 pcx0) := (by rw [(bcell hc).1 _ _ B2s]; exact B2c4); replace B2s : u4.heap.size < u8.heap.size := (by omega); replace B3c0 : u8.cell? ⟨u5.heap.size, 0, none⟩ = some (.int .i64 dar) := (by rw [(bcell hc).1 _ _ B3s]; exact B3c0); replace B3c1 : u8.cell? ⟨u5.heap.size, 1, none⟩ = some (.slice aG nG cG) := (by rw [(bcell hc).1 _ _ B3s]; exact B3c1); replace B3c2 : u8.cell? ⟨u5.heap.size, 2, none⟩ = some (.slice laG lnG lcG) := (by rw [(bcell hc).1 _ _ B3s]; exact B3c2); replace B3c3 : u8.cell? ⟨u5.heap.size, 3, none⟩ = some (.slice gaG gnG gcG) := (by rw [(bcell hc).1 _ _ B3s]; exact B3c3); replace B3c4 : u8.cell? ⟨u5.heap.size, 4, none⟩ = some (.slice paG pnG pcG) := (by rw [(bcell hc).1 _ _ B3s]; exact B3c4); replace B3s : u5.heap.size < u8.heap.size := (by omega); replace DA0 : Hid (IterA false (0) w.heap.size u8 ar0 a0 n0 c0 rows0 la0 ln0 lc0 lw0 ga0 gn0 gc0 gh0 pa0 pn0 pc0 ps0) := hid (beIter DA0.out hc (by omega)); replace DW : Hid (IterA true (u2.heap.size) u3.heap.size u8 dar aW nW cW drows laW lnW lcW dlw gaW gnW gcW dgh paW pnW pcW dps) := hid (beIter DW.out hc (by omega)); replace Dx0 : Hid (IterA true (u3.heap.size + 1) u4.heap.size u8 ar0 ax0 nx0 cx0 rows0 lax0 lnx0 lcx0 lw0 gax0 gnx0 gcx0 gh0 pax0 pnx0 pcx0 ps0) := hid (beIter Dx0.out hc (by omega)); replace DG : Hid (IterS (u4.heap.size + 1) u5.heap.size u8 dar aG nG cG drows laG lnG lcG dlw gaG gnG gcG dgh paG pnG pcG dps) := hid (beIterS DG.out hc (by omega)); replace HW : Hid (Below w.heap.size w u8) := hid (Below.calm HW.out hc); clear hb hc))
    have hkb : (0 : Int) ≤ 1 ∧ (1 : Int) ≤ 1 := by omega
    have hcl0 : cntIter rows0 lw0 gh0 ps0 ≤ 1048576 := by have h1 := HS0.out; have h2 : cntIter rows0 lw0 gh0 ps0 ≤ szIter rows0 lw0 gh0 ps0 := (cntIter_le _ _ _ _); omega
    obtain ⟨k1, hk1⟩ : ∃ k : Int, k = 1 + (cntIter rows0 lw0 gh0 ps0 : Nat) := ⟨_, rfl⟩
    have hkb1 : 0 ≤ k1 ∧ k1 ≤ 1048577 := by omega
    have HK1 := hid hk1; clear hk1 hcl0
    go_wp2_with fail
    refine (markK_Iter ar0 ax0 nx0 cx0 rows0 lax0 lnx0 lcx0 lw0 gax0 gnx0 gcx0 gh0 pax0 pnx0 pcx0 ps0 1 _ (beIter (B := u8.heap.size) Dx0.out (by repeat (first | with_reducible assumption | with_reducible exact Below.refl _ _ | with_reducible refine below_drewN ?_ _ | with_reducible refine Below.al ?_ (by first | with_reducible exact Nat.le_refl _ | omega | (simp; done) | (simp; omega) | exact Nat.le_refl _) _ | with_reducible refine Below.setCell ?_ (by first | with_reducible exact Nat.le_refl _ | omega | (simp; done) | (simp; omega) | exact Nat.le_refl _) _ | assumption | exact Below.refl _ _ | refine below_drewN ?_ _ | refine Below.al ?_ (by first | with_reducible exact Nat.le_refl _ | omega | (simp; done) | (simp; omega) | exact Nat.le_refl _) _ | refine Below.setCell ?_ (by first | with_reducible exact Nat.le_refl _ | omega | (simp; done) | (simp; omega) | exact Nat.le_refl _) _)) (by first | with_reducible exact Nat.le_refl _ | omega | (simp; done) | (simp; omega) | exact Nat.le_refl _)) (by first | with_reducible exact Nat.le_refl _ | omega | (simp; done) | (simp; omega) | exact Nat.le_refl _) (by omega) (by omega) HS0.out).mono ?_
    rintro e u9 ⟨rfl, hm⟩
    rw [← HK1.out]
    have z9 : u8.heap.size ≤ u9.heap.size := hm.size
    replace B0c0 : u9.cell? ⟨w.heap.size, 0, none⟩ = some (.int .i64 ar0) := (by rw [boxG hm _ B0s (by omega)]; exact B0c0)
    replace B0c1 : u9.cell? ⟨w.heap.size, 1, none⟩ = some (.slice a0 n0 c0) := (by rw [boxG hm _ B0s (by omega)]; exact B0c1)
    replace B0c2 : u9.cell? ⟨w.heap.size, 2, none⟩ = some (.slice la0 ln0 lc0) := (by rw [boxG hm _ B0s (by omega)]; exact B0c2)
    replace B0c3 : u9.cell? ⟨w.heap.size, 3, none⟩ = some (.slice ga0 gn0 gc0) := (by rw [boxG hm _ B0s (by omega)]; exact B0c3)
    replace B0c4 : u9.cell? ⟨w.heap.size, 4, none⟩ = some (.slice pa0 pn0 pc0) := (by rw [boxG hm _ B0s (by omega)]; exact B0c4)
    replace B0s : w.heap.size < u9.heap.size := (by omega)
    replace B1c0 : u9.cell? ⟨u3.heap.size, 0, none⟩ = some (.int .i64 dar) := (by rw [boxG hm _ B1s (by omega)]; exact B1c0)
    replace B1c1 : u9.cell? ⟨u3.heap.size, 1, none⟩ = some (.slice aW nW cW) := (by rw [boxG hm _ B1s (by omega)]; exact B1c1)
    replace B1c2 : u9.cell? ⟨u3.heap.size, 2, none⟩ = some (.slice laW lnW lcW) := (by rw [boxG hm _ B1s (by omega)]; exact B1c2)
    replace B1c3 : u9.cell? ⟨u3.heap.size, 3, none⟩ = some (.slice gaW gnW gcW) := (by rw [boxG hm _ B1s (by omega)]; exact B1c3)
    replace B1c4 : u9.cell? ⟨u3.heap.size, 4, none⟩ = some (.slice paW pnW pcW) := (by rw [boxG hm _ B1s (by omega)]; exact B1c4)
    replace B1s : u3.heap.size < u9.heap.size := (by omega)
    replace B2c0 : u9.cell? ⟨u4.heap.size, 0, none⟩ = some (.int .i64 ar0) := (by rw [boxG hm _ B2s (by omega)]; exact B2c0)
    replace B2c1 : u9.cell? ⟨u4.heap.size, 1, none⟩ = some (.slice ax0 nx0 cx0) := (by rw [boxG hm _ B2s (by omega)]; exact B2c1)
    replace B2c2 : u9.cell? ⟨u4.heap.size, 2, none⟩ = some (.slice lax0 lnx0 lcx0) := (by rw [boxG hm _ B2s (by omega)]; exact B2c2)
    replace B2c3 : u9.cell? ⟨u4.heap.size, 3, none⟩ = some (.slice gax0 gnx0 gcx0) := (by rw [boxG hm _ B2s (by omega)]; exact B2c3)
    replace B2c4 : u9.cell? ⟨u4.heap.size, 4, none⟩ = some (.slice pax0 pnx0 pcx0) := (by rw [boxG hm _ B2s (by omega)]; exact B2c4)
    replace B2s : u4.heap.size < u9.heap.size := (by omega)
    replace B3c0 : u9.cell? ⟨u5.heap.size, 0, none⟩ = some (.int .i64 dar) := (by rw [boxG hm _ B3s (by omega)]; exact B3c0)
    replace B3c1 : u9.cell? ⟨u5.heap.size, 1, none⟩ = some (.slice aG nG cG) := (by rw [boxG hm _ B3s (by omega)]; exact B3c1)
    replace B3c2 : u9.cell? ⟨u5.heap.size, 2, none⟩ = some (.slice laG lnG lcG) := (by rw [boxG hm _ B3s (by omega)]; exact B3c2)
    replace B3c3 : u9.cell? ⟨u5.heap.size, 3, none⟩ = some (.slice gaG gnG gcG) := (by rw [boxG hm _ B3s (by omega)]; exact B3c3)
    replace B3c4 : u9.cell? ⟨u5.heap.size, 4, none⟩ = some (.slice paG pnG pcG) := (by rw [boxG hm _ B3s (by omega)]; exact B3c4)
    replace B3s : u5.heap.size < u9.heap.size := (by omega)
    replace DA0 : Hid (IterA false (0) w.heap.size u9 ar0 a0 n0 c0 rows0 la0 ln0 lc0 lw0 ga0 gn0 gc0 gh0 pa0 pn0 pc0 ps0) := hid (kpIter DA0.out (hm.keeps (by omega) (by omega)))
    replace DW : Hid (IterA true (u2.heap.size) u3.heap.size u9 dar aW nW cW drows laW lnW lcW dlw gaW gnW gcW dgh paW pnW pcW dps) := hid (kpIter DW.out (hm.keeps (by omega) (by omega)))
    replace DG : Hid (IterS (u4.heap.size + 1) u5.heap.size u9 dar aG nG cG drows laG lnG lcG dlw gaG gnG gcG dgh paG pnG pcG dps) := hid (kpIterS DG.out (hm.keeps (by omega) (by omega)))
    replace HW : Hid (Below w.heap.size w u9) := hid (HW.out.trans (hm.below (by omega) (by omega)))
    clear hm
    go_wp2_with fail
    refine (eqK_Iter dar aG nG cG drows laG lnG lcG dlw gaG gnG gcG dgh paG pnG pcG dps aW nW cW laW lnW lcW gaW gnW gcW paW pnW pcW _ ((beIterS (B := u9.heap.size) DG.out (by repeat (first | with_reducible assumption | with_reducible exact Below.refl _ _ | with_reducible refine below_drewN ?_ _ | with_reducible refine Below.al ?_ (by first | with_reducible exact Nat.le_refl _ | omega | (simp; done) | (simp; omega) | exact Nat.le_refl _) _ | with_reducible refine Below.setCell ?_ (by first | with_reducible exact Nat.le_refl _ | omega | (simp; done) | (simp; omega) | exact Nat.le_refl _) _ | assumption | exact Below.refl _ _ | refine below_drewN ?_ _ | refine Below.al ?_ (by first | with_reducible exact Nat.le_refl _ | omega | (simp; done) | (simp; omega) | exact Nat.le_refl _) _ | refine Below.setCell ?_ (by first | with_reducible exact Nat.le_refl _ | omega | (simp; done) | (simp; omega) | exact Nat.le_refl _) _)) (by first | with_reducible exact Nat.le_refl _ | omega | (simp; done) | (simp; omega) | exact Nat.le_refl _))).it (by first | with_reducible exact Nat.le_refl _ | omega | (simp; done) | (simp; omega) | exact Nat.le_refl _) (beIter (B := u9.heap.size) DW.out (by repeat (first | with_reducible assumption | with_reducible exact Below.refl _ _ | with_reducible refine below_drewN ?_ _ | with_reducible refine Below.al ?_ (by first | with_reducible exact Nat.le_refl _ | omega | (simp; done) | (simp; omega) | exact Nat.le_refl _) _ | with_reducible refine Below.setCell ?_ (by first | with_reducible exact Nat.le_refl _ | omega | (simp; done) | (simp; omega) | exact Nat.le_refl _) _ | assumption | exact Below.refl _ _ | refine below_drewN ?_ _ | refine Below.al ?_ (by first | with_reducible exact Nat.le_refl _ | omega | (simp; done) | (simp; omega) | exact Nat.le_refl _) _ | refine Below.setCell ?_ (by first | with_reducible exact Nat.le_refl _ | omega | (simp; done) | (simp; omega) | exact Nat.le_refl _) _)) (by first | with_reducible exact Nat.le_refl _ | omega | (simp; done) | (simp; omega) | exact Nat.le_refl _)) (by first | with_reducible exact Nat.le_refl _ | omega | (simp; done) | (simp; omega) | exact Nat.le_refl _)).mono ?_
    rintro e u10 ⟨rfl, hb⟩
    have hc : Below u9.heap.size u9 u10 := Below.trans (by repeat (first | with_reducible assumption | with_reducible exact Below.refl _ _ | with_reducible refine below_drewN ?_ _ | with_reducible refine Below.al ?_ (by first | with_reducible exact Nat.le_refl _ | omega | (simp; done) | (simp; omega) | exact Nat.le_refl _) _ | with_reducible refine Below.setCell ?_ (by first | with_reducible exact Nat.le_refl _ | omega | (simp; done) | (simp; omega) | exact Nat.le_refl _) _ | assumption | exact Below.refl _ _ | refine below_drewN ?_ _ | refine Below.al ?_ (by first | with_reducible exact Nat.le_refl _ | omega | (simp; done) | (simp; omega) | exact Nat.le_refl _) _ | refine Below.setCell ?_ (by first | with_reducible exact Nat.le_refl _ | omega | (simp; done) | (simp; omega) | exact Nat.le_refl _) _)) (hb.mono (by first | with_reducible exact Nat.le_refl _ | omega | (simp; done) | (simp; omega) | exact Nat.le_refl _))
    have z10 : u9.heap.size ≤ u10.heap.size := hc.size
    replace B0c0 : u10.cell? ⟨w.heap.size, 0, none⟩ = some (.int .i64 ar0) := (by rw [(bcell hc).1 _ _ B0s]; exact B0c0)
    replace B0c1 : u10.cell? ⟨w.heap.size, 1, none⟩ = some (.slice a0 n0 c0) := (by rw [(bcell hc).1 _ _ B0s]; exact B0c1)
    replace B0c2 : u10.cell? ⟨w.heap.size, 2, none⟩ = some (.slice la0 ln0 lc0) := (by rw [(bcell hc).1 _ _ B0s]; exact B0c2)
    replace B0c3 : u10.cell? ⟨w.heap.size, 3, none⟩ = some (.slice ga0 gn0 gc0) := (by rw [(bcell hc).1 _ _ B0s]; exact B0c3)
    replace B0c4 : u10.cell? ⟨w.heap.size, 4, none⟩ = some (.slice pa0 pn0 pc0) := (by rw [(bcell hc).1 _ _ B0s]; exact B0c4)
    replace B0s : w.heap.size < u10.heap.size := (by omega)
    replace B1c0 : u10.cell? ⟨u3.heap.size, 0, none⟩ = some (.int .i64 dar) := (by rw [(bcell hc).1 _ _ B1s]; exact B1c0)
    replace B1c1 : u10.cell? ⟨u3.heap.size, 1, none⟩ = some (.slice aW nW cW) := (by rw [(bcell hc).1 _ _ B1s]; exact B1c1)
    replace B1c2 : u10.cell? ⟨u3.heap.size, 2, none⟩ = some (.slice laW lnW lcW) := (by rw [(bcell hc).1 _ _ B1s]; exact B1c2)
    replace B1c3 : u10.cell? ⟨u3.heap.size, 3, none⟩ = some (.slice gaW gnW gcW) := (by rw [(bcell hc).1 _ _ B1s]; exact B1c3)
    replace B1c4 : u10.cell? ⟨u3.heap.size, 4, none⟩ = some (.slice paW pnW pcW) := (by rw [(bcell hc).1 _ _ B1s]; exact B1c4)
    replace B1s : u3.heap.size < u10.heap.size := (by omega)
    replace B2c0 : u10.cell? ⟨u4.heap.size, 0, none⟩ = some (.int .i64 ar0) := (by rw [(bcell hc).1 _ _ B2s]; exact B2c0)
    replace B2c1 : u10.cell? ⟨u4.heap.size, 1, none⟩ = some (.slice ax0 nx0 cx0) := (by rw [(bcell hc).1 _ _ B2s]; exact B2c1)
    replace B2c2 : u10.cell? ⟨u4.heap.size, 2, none⟩ = some (.slice lax0 lnx0 lcx0) := (by rw [(bcell hc).1 _ _ B2s]; exact B2c2)
    replace B2c3 : u10.cell? ⟨u4.heap.size, 3, none⟩ = some (.slice gax0 gnx0 gcx0) := (by rw [(bcell hc).1 _ _ B2s]; exact B2c3)
    replace B2c4 : u10.cell? ⟨u4.heap.size, 4, none⟩ = some (.slice pax0 pnx0 pcx0) := (by rw [(bcell hc).1 _ _ B2s]; exact B2c4)
    replace B2s : u4.heap.size < u10.heap.size := (by omega)
    replace B3c0 : u10.cell? ⟨u5.heap.size, 0, none⟩ = some (.int .i64 dar) := (by rw [(bcell hc).1 _ _ B3s]; exact B3c0)
    replace B3c1 : u10.cell? ⟨u5.heap.size, 1, none⟩ = some (.slice aG nG cG) := (by rw [(bcell hc).1 _ _ B3s]; exact B3c1)
    replace B3c2 : u10.cell? ⟨u5.heap.size, 2, none⟩ = some (.slice laG lnG lcG) := (by rw [(bcell hc).1 _ _ B3s]; exact B3c2)
    replace B3c3 : u10.cell? ⟨u5.heap.size, 3, none⟩ = some (.slice gaG gnG gcG) := (by rw [(bcell hc).1 _ _ B3s]; exact B3c3)
    replace B3c4 : u10.cell? ⟨u5.heap.size, 4, none⟩ = some (.slice paG pnG pcG) := (by rw [(bcell hc).1 _ _ B3s]; exact B3c4)
    replace B3s : u5.heap.size < u10.heap.size := (by omega)
    replace DA0 : Hid (IterA false (0) w.heap.size u10 ar0 a0 n0 c0 rows0 la0 ln0 lc0 lw0 ga0 gn0 gc0 gh0 pa0 pn0 pc0 ps0) := hid (beIter DA0.out hc (by omega))
    replace DW : Hid (IterA true (u2.heap.size) u3.heap.size u10 dar aW nW cW drows laW lnW lcW dlw gaW gnW gcW dgh paW pnW pcW dps) := hid (beIter DW.out hc (by omega))
    replace DG : Hid (IterS (u4.heap.size + 1) u5.heap.size u10 dar aG nG cG drows laG lnG lcG dlw gaG gnG gcG dgh paG pnG pcG dps) := hid (beIterS DG.out hc (by omega))
    replace HW : Hid (Below w.heap.size w u10) := hid (Below.calm HW.out hc)
    clear hb hc
    have HSG : Hid (SzO drows dlw dgh dps) := hid (by rw [← HDrows.out, ← HDlw.out, ← HDgh.out, ← HDps.out]; exact op_sz ar0 rows0 lw0 gh0 ps0 HS0.out)
    obtain ⟨lenG, hlenG⟩ : ∃ l, l = cntIter drows dlw dgh dps := ⟨_, rfl⟩
    have HLG := hid hlenG; clear hlenG
    obtain ⟨km, hkm⟩ : ∃ k : Int, k = 1 + (lenG : Nat) := ⟨_, rfl⟩
    have hkmb : 0 ≤ km := by omega
    have hkne : (km != km) = false := by simp
    have HKM := hid hkm; clear hkm
    go_wp2_with fail
    refine (resK_IterO dar aG nG cG drows laG lnG lcG dlw gaG gnG gcG dgh paG pnG pcG dps 1 _ (beIterS (B := u10.heap.size) DG.out (by repeat (first | with_reducible assumption | with_reducible exact Below.refl _ _ | with_reducible refine below_drewN ?_ _ | with_reducible refine Below.al ?_ (by first | with_reducible exact Nat.le_refl _ | omega | (simp; done) | (simp; omega) | exact Nat.le_refl _) _ | with_reducible refine Below.setCell ?_ (by first | with_reducible exact Nat.le_refl _ | omega | (simp; done) | (simp; omega) | exact Nat.le_refl _) _ | assumption | exact Below.refl _ _ | refine below_drewN ?_ _ | refine Below.al ?_ (by first | with_reducible exact Nat.le_refl _ | omega | (simp; done) | (simp; omega) | exact Nat.le_refl _) _ | refine Below.setCell ?_ (by first | with_reducible exact Nat.le_refl _ | omega | (simp; done) | (simp; omega) | exact Nat.le_refl _) _)) (by first | with_reducible exact Nat.le_refl _ | omega | (simp; done) | (simp; omega) | exact Nat.le_refl _)) (by first | with_reducible exact Nat.le_refl _ | omega | (simp; done) | (simp; omega) | exact Nat.le_refl _) (by omega) (by omega) HSG.out).mono ?_
    rintro e u11 ⟨rfl, hm, ho⟩
    rw [← HLG.out]; rw [← HKM.out]
    have z11 : u10.heap.size ≤ u11.heap.size := hm.size
    replace B0c0 : u11.cell? ⟨w.heap.size, 0, none⟩ = some (.int .i64 ar0) := (by rw [boxG hm _ B0s (by omega)]; exact B0c0)
    replace B0c1 : u11.cell? ⟨w.heap.size, 1, none⟩ = some (.slice a0 n0 c0) := (by rw [boxG hm _ B0s (by omega)]; exact B0c1)
    replace B0c2 : u11.cell? ⟨w.heap.size, 2, none⟩ = some (.slice la0 ln0 lc0) := (by rw [boxG hm _ B0s (by omega)]; exact B0c2)
    replace B0c3 : u11.cell? ⟨w.heap.size, 3, none⟩ = some (.slice ga0 gn0 gc0) := (by rw [boxG hm _ B0s (by omega)]; exact B0c3)
    replace B0c4 : u11.cell? ⟨w.heap.size, 4, none⟩ = some (.slice pa0 pn0 pc0) := (by rw [boxG hm _ B0s (by omega)]; exact B0c4)
    replace B0s : w.heap.size < u11.heap.size := (by omega)
    replace B1c0 : u11.cell? ⟨u3.heap.size, 0, none⟩ = some (.int .i64 dar) := (by rw [boxG hm _ B1s (by omega)]; exact B1c0)
    replace B1c1 : u11.cell? ⟨u3.heap.size, 1, none⟩ = some (.slice aW nW cW) := (by rw [boxG hm _ B1s (by omega)]; exact B1c1)
    replace B1c2 : u11.cell? ⟨u3.heap.size, 2, none⟩ = some (.slice laW lnW lcW) := (by rw [boxG hm _ B1s (by omega)]; exact B1c2)
    replace B1c3 : u11.cell? ⟨u3.heap.size, 3, none⟩ = some (.slice gaW gnW gcW) := (by rw [boxG hm _ B1s (by omega)]; exact B1c3)
    replace B1c4 : u11.cell? ⟨u3.heap.size, 4, none⟩ = some (.slice paW pnW pcW) := (by rw [boxG hm _ B1s (by omega)]; exact B1c4)
    replace B1s : u3.heap.size < u11.heap.size := (by omega)
    replace B2c0 : u11.cell? ⟨u4.heap.size, 0, none⟩ = some (.int .i64 ar0) := (by rw [boxG hm _ B2s (by omega)]; exact B2c0)
    replace B2c1 : u11.cell? ⟨u4.heap.size, 1, none⟩ = some (.slice ax0 nx0 cx0) := (by rw [boxG hm _ B2s (by omega)]; exact B2c1)
    replace B2c2 : u11.cell? ⟨u4.heap.size, 2, none⟩ = some (.slice lax0 lnx0 lcx0) := (by rw [boxG hm _ B2s (by omega)]; exact B2c2)
    replace B2c3 : u11.cell? ⟨u4.heap.size, 3, none⟩ = some (.slice gax0 gnx0 gcx0) := (by rw [boxG hm _ B2s (by omega)]; exact B2c3)
    replace B2c4 : u11.cell? ⟨u4.heap.size, 4, none⟩ = some (.slice pax0 pnx0 pcx0) := (by rw [boxG hm _ B2s (by omega)]; exact B2c4)
    replace B2s : u4.heap.size < u11.heap.size := (by omega)
    replace B3c0 : u11.cell? ⟨u5.heap.size, 0, none⟩ = some (.int .i64 dar) := (by rw [boxG hm _ B3s (by omega)]; exact B3c0)
    replace B3c1 : u11.cell? ⟨u5.heap.size, 1, none⟩ = some (.slice aG nG cG) := (by rw [boxG hm _ B3s (by omega)]; exact B3c1)
    replace B3c2 : u11.cell? ⟨u5.heap.size, 2, none⟩ = some (.slice laG lnG lcG) := (by rw [boxG hm _ B3s (by omega)]; exact B3c2)
    replace B3c3 : u11.cell? ⟨u5.heap.size, 3, none⟩ = some (.slice gaG gnG gcG) := (by rw [boxG hm _ B3s (by omega)]; exact B3c3)
    replace B3c4 : u11.cell? ⟨u5.heap.size, 4, none⟩ = some (.slice paG pnG pcG) := (by rw [boxG hm _ B3s (by omega)]; exact B3c4)
    replace B3s : u5.heap.size < u11.heap.size := (by omega)
    replace DA0 : Hid (IterA false (0) w.heap.size u11 ar0 a0 n0 c0 rows0 la0 ln0 lc0 lw0 ga0 gn0 gc0 gh0 pa0 pn0 pc0 ps0) := hid (kpIter DA0.out (hm.keeps (by omega) (by omega)))
    replace DW : Hid (IterA true (u2.heap.size) u3.heap.size u11 dar aW nW cW drows laW lnW lcW dlw gaW gnW gcW dgh paW pnW pcW dps) := hid (kpIter DW.out (hm.keeps (by omega) (by omega)))
    replace HW : Hid (Below w.heap.size w u11) := hid (HW.out.trans (hm.below (by omega) (by omega)))
    have DM : Hid (IterA true (u4.heap.size + 1) u5.heap.size u11 (dar) aG nG cG (mkIR 1 drows) laG lnG lcG (mkIL 1 drows dlw) gaG gnG gcG (mkIH 1 drows dlw dgh) paG pnG pcG (mkIP 1 drows dlw dgh dps)) := hid ho
    clear ho hm
    go_wp2_with fail
    refine (heldK_IterO dar aG nG cG drows laG lnG lcG dlw gaG gnG gcG dgh paG pnG pcG dps 1 _ (beIter (B := u11.heap.size) DM.out (by repeat (first | with_reducible assumption | with_reducible exact Below.refl _ _ | with_reducible refine below_drewN ?_ _ | with_reducible refine Below.al ?_ (by first | with_reducible exact Nat.le_refl _ | omega | (simp; done) | (simp; omega) | exact Nat.le_refl _) _ | with_reducible refine Below.setCell ?_ (by first | with_reducible exact Nat.le_refl _ | omega | (simp; done) | (simp; omega) | exact Nat.le_refl _) _ | assumption | exact Below.refl _ _ | refine below_drewN ?_ _ | refine Below.al ?_ (by first | with_reducible exact Nat.le_refl _ | omega | (simp; done) | (simp; omega) | exact Nat.le_refl _) _ | refine Below.setCell ?_ (by first | with_reducible exact Nat.le_refl _ | omega | (simp; done) | (simp; omega) | exact Nat.le_refl _) _)) (by first | with_reducible exact Nat.le_refl _ | omega | (simp; done) | (simp; omega) | exact Nat.le_refl _)) (by first | with_reducible exact Nat.le_refl _ | omega | (simp; done) | (simp; omega) | exact Nat.le_refl _) (by omega) (by omega) HSG.out).mono ?_
    rintro e u12 ⟨rfl, hb⟩
    rw [← HLG.out, ← HKM.out]
    have hc : Below u11.heap.size u11 u12 := Below.trans (by repeat (first | with_reducible assumption | with_reducible exact Below.refl _ _ | with_reducible refine below_drewN ?_ _ | with_reducible refine Below.al ?_ (by first | with_reducible exact Nat.le_refl _ | omega | (simp; done) | (simp; omega) | exact Nat.le_refl _) _ | with_reducible refine Below.setCell ?_ (by first | with_reducible exact Nat.le_refl _ | omega | (simp; done) | (simp; omega) | exact Nat.le_refl _) _ | assumption | exact Below.refl _ _ | refine below_drewN ?_ _ | refine Below.al ?_ (by first | with_reducible exact Nat.le_refl _ | omega | (simp; done) | (simp; omega) | exact Nat.le_refl _) _ | refine Below.setCell ?_ (by first | with_reducible exact Nat.le_refl _ | omega | (simp; done) | (simp; omega) | exact Nat.le_refl _) _)) (hb.mono (by first | with_reducible exact Nat.le_refl _ | omega | (simp; done) | (simp; omega) | exact Nat.le_refl _))
    have z12 : u11.heap.size ≤ u12.heap.size := hc.size
    replace B0c0 : u12.cell? ⟨w.heap.size, 0, none⟩ = some (.int .i64 ar0) := (by rw [(bcell hc).1 _ _ B0s]; exact B0c0)
    replace B0c1 : u12.cell? ⟨w.heap.size, 1, none⟩ = some (.slice a0 n0 c0) := (by rw [(bcell hc).1 _ _ B0s]; exact B0c1)
    replace B0c2 : u12.cell? ⟨w.heap.size, 2, none⟩ = some (.slice la0 ln0 lc0) := (by rw [(bcell hc).1 _ _ B0s]; exact B0c2)
    replace B0c3 : u12.cell? ⟨w.heap.size, 3, none⟩ = some (.slice ga0 gn0 gc0) := (by rw [(bcell hc).1 _ _ B0s]; exact B0c3)
    replace B0c4 : u12.cell? ⟨w.heap.size, 4, none⟩ = some (.slice pa0 pn0 pc0) := (by rw [(bcell hc).1 _ _ B0s]; exact B0c4)
    replace B0s : w.heap.size < u12.heap.size := (by omega)
    replace B1c0 : u12.cell? ⟨u3.heap.size, 0, none⟩ = some (.int .i64 dar) := (by rw [(bcell hc).1 _ _ B1s]; exact B1c0)
    replace B1c1 : u12.cell? ⟨u3.heap.size, 1, none⟩ = some (.slice aW nW cW) := (by rw [(bcell hc).1 _ _ B1s]; exact B1c1)
    replace B1c2 : u12.cell? ⟨u3.heap.size, 2, none⟩ = some (.slice laW lnW lcW) := (by rw [(bcell hc).1 _ _ B1s]; exact B1c2)
    replace B1c3 : u12.cell? ⟨u3.heap.size, 3, none⟩ = some (.slice gaW gnW gcW) := (by rw [(bcell hc).1 _ _ B1s]; exact B1c3)
    replace B1c4 : u12.cell? ⟨u3.heap.size, 4, none⟩ = some (.slice paW pnW pcW) := (by rw [(bcell hc).1 _ _ B1s]; exact B1c4)
    replace B1s : u3.heap.size < u12.heap.size := (by omega)
    replace B2c0 : u12.cell? ⟨u4.heap.size, 0, none⟩ = some (.int .i64 ar0) := (by rw [(bcell hc).1 _ _ B2s]; exact B2c0)
    replace B2c1 : u12.cell? ⟨u4.heap.size, 1, none⟩ = some (.slice ax0 nx0 cx0) := (by rw [(bcell hc).1 _ _ B2s]; exact B2c1)
    replace B2c2 : u12.cell? ⟨u4.heap.size, 2, none⟩ = some (.slice lax0 lnx0 lcx0) := (by rw [(bcell hc).1 _ _ B2s]; exact B2c2)
    replace B2c3 : u12.cell? ⟨u4.heap.size, 3, none⟩ = some (.slice gax0 gnx0 gcx0) := (by rw [(bcell hc).1 _ _ B2s]; exact B2c3)
    replace B2c4 : u12.cell? ⟨u4.heap.size, 4, none⟩ = some (.slice pax0 pnx0 pcx0) := (by rw [(bcell hc).1 _ _ B2s]; exact B2c4)
    replace B2s : u4.heap.size < u12.heap.size := (by omega)
    replace B3c0 : u12.cell? ⟨u5.heap.size, 0, none⟩ = some (.int .i64 dar) := (by rw [(bcell hc).1 _ _ B3s]; exact B3c0)
    replace B3c1 : u12.cell? ⟨u5.heap.size, 1, none⟩ = some (.slice aG nG cG) := (by rw [(bcell hc).1 _ _ B3s]; exact B3c1)
    replace B3c2 : u12.cell? ⟨u5.heap.size, 2, none⟩ = some (.slice laG lnG lcG) := (by rw [(bcell hc).1 _ _ B3s]; exact B3c2)
    replace B3c3 : u12.cell? ⟨u5.heap.size, 3, none⟩ = some (.slice gaG gnG gcG) := (by rw [(bcell hc).1 _ _ B3s]; exact B3c3)
    replace B3c4 : u12.cell? ⟨u5.heap.size, 4, none⟩ = some (.slice paG pnG pcG) := (by rw [(bcell hc).1 _ _ B3s]; exact B3c4)
    replace B3s : u5.heap.size < u12.heap.size := (by omega)
    replace DA0 : Hid (IterA false (0) w.heap.size u12 ar0 a0 n0 c0 rows0 la0 ln0 lc0 lw0 ga0 gn0 gc0 gh0 pa0 pn0 pc0 ps0) := hid (beIter DA0.out hc (by omega))
    replace DW : Hid (IterA true (u2.heap.size) u3.heap.size u12 dar aW nW cW drows laW lnW lcW dlw gaW gnW gcW dgh paW pnW pcW dps) := hid (beIter DW.out hc (by omega))
    replace DM : Hid (IterA true (u4.heap.size + 1) u5.heap.size u12 (dar) aG nG cG (mkIR 1 drows) laG lnG lcG (mkIL 1 drows dlw) gaG gnG gcG (mkIH 1 drows dlw dgh) paG pnG pcG (mkIP 1 drows dlw dgh dps)) := hid (beIter DM.out hc (by omega))
    replace HW : Hid (Below w.heap.size w u12) := hid (Below.calm HW.out hc)
    clear hb hc
    go_wp2_with fail
    refine (toK_Iter ar0 a0 n0 c0 rows0 la0 ln0 lc0 lw0 ga0 gn0 gc0 gh0 pa0 pn0 pc0 ps0 _ (beIter (B := u12.heap.size) DA0.out (by repeat (first | with_reducible assumption | with_reducible exact Below.refl _ _ | with_reducible refine below_drewN ?_ _ | with_reducible refine Below.al ?_ (by first | with_reducible exact Nat.le_refl _ | omega | (simp; done) | (simp; omega) | exact Nat.le_refl _) _ | with_reducible refine Below.setCell ?_ (by first | with_reducible exact Nat.le_refl _ | omega | (simp; done) | (simp; omega) | exact Nat.le_refl _) _ | assumption | exact Below.refl _ _ | refine below_drewN ?_ _ | refine Below.al ?_ (by first | with_reducible exact Nat.le_refl _ | omega | (simp; done) | (simp; omega) | exact Nat.le_refl _) _ | refine Below.setCell ?_ (by first | with_reducible exact Nat.le_refl _ | omega | (simp; done) | (simp; omega) | exact Nat.le_refl _) _)) (by first | with_reducible exact Nat.le_refl _ | omega | (simp; done) | (simp; omega) | exact Nat.le_refl _)) (by first | with_reducible exact Nat.le_refl _ | omega | (simp; done) | (simp; omega) | exact Nat.le_refl _) HS0.out).mono ?_
    rintro e u13 ⟨ah0, nh0, ch0, lah0, lnh0, lch0, gah0, gnh0, gch0, pah0, pnh0, pch0, rfl, ho, hb⟩
    have hc : Below u12.heap.size u12 u13 := Below.trans (by repeat (first | with_reducible assumption | with_reducible exact Below.refl _ _ | with_reducible refine below_drewN ?_ _ | with_reducible refine Below.al ?_ (by first | with_reducible exact Nat.le_refl _ | omega | (simp; done) | (simp; omega) | exact Nat.le_refl _) _ | with_reducible refine Below.setCell ?_ (by first | with_reducible exact Nat.le_refl _ | omega | (simp; done) | (simp; omega) | exact Nat.le_refl _) _ | assumption | exact Below.refl _ _ | refine below_drewN ?_ _ | refine Below.al ?_ (by first | with_reducible exact Nat.le_refl _ | omega | (simp; done) | (simp; omega) | exact Nat.le_refl _) _ | refine Below.setCell ?_ (by first | with_reducible exact Nat.le_refl _ | omega | (simp; done) | (simp; omega) | exact Nat.le_refl _) _)) (hb.mono (by first | with_reducible exact Nat.le_refl _ | omega | (simp; done) | (simp; omega) | exact Nat.le_refl _))
    have z13 : u12.heap.size ≤ u13.heap.size := hc.size
    replace B0c0 : u13.cell? ⟨w.heap.size, 0, none⟩ = some (.int .i64 ar0) := (by rw [(bcell hc).1 _ _ B0s]; exact B0c0)
    replace B0c1 : u13.cell? ⟨w.heap.size, 1, none⟩ = some (.slice a0 n0 c0) := (by rw [(bcell hc).1 _ _ B0s]; exact B0c1)
    replace B0c2 : u13.cell? ⟨w.heap.size, 2, none⟩ = some (.slice la0 ln0 lc0) := (by rw [(bcell hc).1 _ _ B0s]; exact B0c2)
    replace B0c3 : u13.cell? ⟨w.heap.size, 3, none⟩ = some (.slice ga0 gn0 gc0) := (by rw [(bcell hc).1 _ _ B0s]; exact B0c3)
    replace B0c4 : u13.cell? ⟨w.heap.size, 4, none⟩ = some (.slice pa0 pn0 pc0) := (by rw [(bcell hc).1 _ _ B0s]; exact B0c4)
    replace B0s : w.heap.size < u13.heap.size := (by omega)
    replace B1c0 : u13.cell? ⟨u3.heap.size, 0, none⟩ = some (.int .i64 dar) := (by rw [(bcell hc).1 _ _ B1s]; exact B1c0)
    replace B1c1 : u13.cell? ⟨u3.heap.size, 1, none⟩ = some (.slice aW nW cW) := (by rw [(bcell hc).1 _ _ B1s]; exact B1c1)
    replace B1c2 : u13.cell? ⟨u3.heap.size, 2, none⟩ = some (.slice laW lnW lcW) := (by rw [(bcell hc).1 _ _ B1s]; exact B1c2)
    replace B1c3 : u13.cell? ⟨u3.heap.size, 3, none⟩ = some (.slice gaW gnW gcW) := (by rw [(bcell hc).1 _ _ B1s]; exact B1c3)
    replace B1c4 : u13.cell? ⟨u3.heap.size, 4, none⟩ = some (.slice paW pnW pcW) := (by rw [(bcell hc).1 _ _ B1s]; exact B1c4)
    replace B1s : u3.heap.size < u13.heap.size := (by omega)
    replace B2c0 : u13.cell? ⟨u4.heap.size, 0, none⟩ = some (.int .i64 ar0) := (by rw [(bcell hc).1 _ _ B2s]; exact B2c0)
    replace B2c1 : u13.cell? ⟨u4.heap.size, 1, none⟩ = some (.slice ax0 nx0 cx0) := (by rw [(bcell hc).1 _ _ B2s]; exact B2c1)
    replace B2c2 : u13.cell? ⟨u4.heap.size, 2, none⟩ = some (.slice lax0 lnx0 lcx0) := (by rw [(bcell hc).1 _ _ B2s]; exact B2c2)
    replace B2c3 : u13.cell? ⟨u4.heap.size, 3, none⟩ = some (.slice gax0 gnx0 gcx0) := (by rw [(bcell hc).1 _ _ B2s]; exact B2c3)
    replace B2c4 : u13.cell? ⟨u4.heap.size, 4, none⟩ = some (.slice pax0 pnx0 pcx0) := (by rw [(bcell hc).1 _ _ B2s]; exact B2c4)
    replace B2s : u4.heap.size < u13.heap.size := (by omega)
    replace B3c0 : u13.cell? ⟨u5.heap.size, 0, none⟩ = some (.int .i64 dar) := (by rw [(bcell hc).1 _ _ B3s]; exact B3c0)
    replace B3c1 : u13.cell? ⟨u5.heap.size, 1, none⟩ = some (.slice aG nG cG) := (by rw [(bcell hc).1 _ _ B3s]; exact B3c1)
    replace B3c2 : u13.cell? ⟨u5.heap.size, 2, none⟩ = some (.slice laG lnG lcG) := (by rw [(bcell hc).1 _ _ B3s]; exact B3c2)
    replace B3c3 : u13.cell? ⟨u5.heap.size, 3, none⟩ = some (.slice gaG gnG gcG) := (by rw [(bcell hc).1 _ _ B3s]; exact B3c3)
    replace B3c4 : u13.cell? ⟨u5.heap.size, 4, none⟩ = some (.slice paG pnG pcG) := (by rw [(bcell hc).1 _ _ B3s]; exact B3c4)
    replace B3s : u5.heap.size < u13.heap.size := (by omega)
    replace DA0 : Hid (IterA false (0) w.heap.size u13 ar0 a0 n0 c0 rows0 la0 ln0 lc0 lw0 ga0 gn0 gc0 gh0 pa0 pn0 pc0 ps0) := hid (beIter DA0.out hc (by omega))
    replace DW : Hid (IterA true (u2.heap.size) u3.heap.size u13 dar aW nW cW drows laW lnW lcW dlw gaW gnW gcW dgh paW pnW pcW dps) := hid (beIter DW.out hc (by omega))
    replace DM : Hid (IterA true (u4.heap.size + 1) u5.heap.size u13 (dar) aG nG cG (mkIR 1 drows) laG lnG lcG (mkIL 1 drows dlw) gaG gnG gcG (mkIH 1 drows dlw dgh) paG pnG pcG (mkIP 1 drows dlw dgh dps)) := hid (beIter DM.out hc (by omega))
    replace HW : Hid (Below w.heap.size w u13) := hid (Below.calm HW.out hc)
    have Dh0 : Hid (IterA true (u12.heap.size) u13.heap.size u13 ar0 ah0 nh0 ch0 rows0 lah0 lnh0 lch0 lw0 gah0 gnh0 gch0 gh0 pah0 pnh0 pch0 ps0) := hid (wdIter ho (by first | with_reducible exact Nat.le_refl _ | omega | (simp; done) | (simp; omega) | exact Nat.le_refl _))
    clear ho hb hc
    go_wp2_with fail
    refine (implOpen' ar0 ah0 nh0 ch0 rows0 lah0 lnh0 lch0 lw0 gah0 gnh0 gch0 gh0 pah0 pnh0 pch0 ps0 _ (beIter (B := u13.heap.size) Dh0.out (by repeat (first | with_reducible assumption | with_reducible exact Below.refl _ _ | with_reducible refine below_drewN ?_ _ | with_reducible refine Below.al ?_ (by first | with_reducible exact Nat.le_refl _ | omega | (simp; done) | (simp; omega) | exact Nat.le_refl _) _ | with_reducible refine Below.setCell ?_ (by first | with_reducible exact Nat.le_refl _ | omega | (simp; done) | (simp; omega) | exact Nat.le_refl _) _ | assumption | exact Below.refl _ _ | refine below_drewN ?_ _ | refine Below.al ?_ (by first | with_reducible exact Nat.le_refl _ | omega | (simp; done) | (simp; omega) | exact Nat.le_refl _) _ | refine Below.setCell ?_ (by first | with_reducible exact Nat.le_refl _ | omega | (simp; done) | (simp; omega) | exact Nat.le_refl _) _)) (by first | with_reducible exact Nat.le_refl _ | omega | (simp; done) | (simp; omega) | exact Nat.le_refl _)) (by first | with_reducible exact Nat.le_refl _ | omega | (simp; done) | (simp; omega) | exact Nat.le_refl _) HS0.out).mono ?_
    rintro e u14 ⟨aE, nE, cE, laE, lnE, lcE, gaE, gnE, gcE, paE, pnE, pcE, rfl, ho, hb⟩
    rw [HDar.out, HDrows.out, HDlw.out, HDgh.out, HDps.out] at ho; rw [HDar.out, HRB.out]
    have hc : Below u13.heap.size u13 u14 := Below.trans (by repeat (first | with_reducible assumption | with_reducible exact Below.refl _ _ | with_reducible refine below_drewN ?_ _ | with_reducible refine Below.al ?_ (by first | with_reducible exact Nat.le_refl _ | omega | (simp; done) | (simp; omega) | exact Nat.le_refl _) _ | with_reducible refine Below.setCell ?_ (by first | with_reducible exact Nat.le_refl _ | omega | (simp; done) | (simp; omega) | exact Nat.le_refl _) _ | assumption | exact Below.refl _ _ | refine below_drewN ?_ _ | refine Below.al ?_ (by first | with_reducible exact Nat.le_refl _ | omega | (simp; done) | (simp; omega) | exact Nat.le_refl _) _ | refine Below.setCell ?_ (by first | with_reducible exact Nat.le_refl _ | omega | (simp; done) | (simp; omega) | exact Nat.le_refl _) _)) (hb.mono (by first | with_reducible exact Nat.le_refl _ | omega | (simp; done) | (simp; omega) | exact Nat.le_refl _))
    have z14 : u13.heap.size ≤ u14.heap.size := hc.size
    replace B0c0 : u14.cell? ⟨w.heap.size, 0, none⟩ = some (.int .i64 ar0) := (by rw [(bcell hc).1 _ _ B0s]; exact B0c0)
    replace B0c1 : u14.cell? ⟨w.heap.size, 1, none⟩ = some (.slice a0 n0 c0) := (by rw [(bcell hc).1 _ _ B0s]; exact B0c1)
    replace B0c2 : u14.cell? ⟨w.heap.size, 2, none⟩ = some (.slice la0 ln0 lc0) := (by rw [(bcell hc).1 _ _ B0s]; exact B0c2)
    replace B0c3 : u14.cell? ⟨w.heap.size, 3, none⟩ = some (.slice ga0 gn0 gc0) := (by rw [(bcell hc).1 _ _ B0s]; exact B0c3)
    replace B0c4 : u14.cell? ⟨w.heap.size, 4, none⟩ = some (.slice pa0 pn0 pc0) := (by rw [(bcell hc).1 _ _ B0s]; exact B0c4)
    replace B0s : w.heap.size < u14.heap.size := (by omega)
    replace B1c0 : u14.cell? ⟨u3.heap.size, 0, none⟩ = some (.int .i64 dar) := (by rw [(bcell hc).1 _ _ B1s]; exact B1c0)
    replace B1c1 : u14.cell? ⟨u3.heap.size, 1, none⟩ = some (.slice aW nW cW) := (by rw [(bcell hc).1 _ _ B1s]; exact B1c1)
    replace B1c2 : u14.cell? ⟨u3.heap.size, 2, none⟩ = some (.slice laW lnW lcW) := (by rw [(bcell hc).1 _ _ B1s]; exact B1c2)
    replace B1c3 : u14.cell? ⟨u3.heap.size, 3, none⟩ = some (.slice gaW gnW gcW) := (by rw [(bcell hc).1 _ _ B1s]; exact B1c3)
    replace B1c4 : u14.cell? ⟨u3.heap.size, 4, none⟩ = some (.slice paW pnW pcW) := (by rw [(bcell hc).1 _ _ B1s]; exact B1c4)
    replace B1s : u3.heap.size < u14.heap.size := (by omega)
    replace B2c0 : u14.cell? ⟨u4.heap.size, 0, none⟩ = some (.int .i64 ar0) := (by rw [(bcell hc).1 _ _ B2s]; exact B2c0)
    replace B2c1 : u14.cell? ⟨u4.heap.size, 1, none⟩ = some (.slice ax0 nx0 cx0) := (by rw [(bcell hc).1 _ _ B2s]; exact B2c1)
    replace B2c2 : u14.cell? ⟨u4.heap.size, 2, none⟩ = some (.slice lax0 lnx0 lcx0) := (by rw [(bcell hc).1 _ _ B2s]; exact B2c2)
    replace B2c3 : u14.cell? ⟨u4.heap.size, 3, none⟩ = some (.slice gax0 gnx0 gcx0) := (by rw [(bcell hc).1 _ _ B2s]; exact B2c3)
    replace B2c4 : u14.cell? ⟨u4.heap.size, 4, none⟩ = some (.slice pax0 pnx0 pcx0) := (by rw [(bcell hc).1 _ _ B2s]; exact B2c4)
    replace B2s : u4.heap.size < u14.heap.size := (by omega)
    replace B3c0 : u14.cell? ⟨u5.heap.size, 0, none⟩ = some (.int .i64 dar) := (by rw [(bcell hc).1 _ _ B3s]; exact B3c0)
    replace B3c1 : u14.cell? ⟨u5.heap.size, 1, none⟩ = some (.slice aG nG cG) := (by rw [(bcell hc).1 _ _ B3s]; exact B3c1)
    replace B3c2 : u14.cell? ⟨u5.heap.size, 2, none⟩ = some (.slice laG lnG lcG) := (by rw [(bcell hc).1 _ _ B3s]; exact B3c2)
    replace B3c3 : u14.cell? ⟨u5.heap.size, 3, none⟩ = some (.slice gaG gnG gcG) := (by rw [(bcell hc).1 _ _ B3s]; exact B3c3)
    replace B3c4 : u14.cell? ⟨u5.heap.size, 4, none⟩ = some (.slice paG pnG pcG) := (by rw [(bcell hc).1 _ _ B3s]; exact B3c4)
    replace B3s : u5.heap.size < u14.heap.size := (by omega)
    replace DA0 : Hid (IterA false (0) w.heap.size u14 ar0 a0 n0 c0 rows0 la0 ln0 lc0 lw0 ga0 gn0 gc0 gh0 pa0 pn0 pc0 ps0) := hid (beIter DA0.out hc (by omega))
    replace DW : Hid (IterA true (u2.heap.size) u3.heap.size u14 dar aW nW cW drows laW lnW lcW dlw gaW gnW gcW dgh paW pnW pcW dps) := hid (beIter DW.out hc (by omega))
    replace DM : Hid (IterA true (u4.heap.size + 1) u5.heap.size u14 (dar) aG nG cG (mkIR 1 drows) laG lnG lcG (mkIL 1 drows dlw) gaG gnG gcG (mkIH 1 drows dlw dgh) paG pnG pcG (mkIP 1 drows dlw dgh dps)) := hid (beIter DM.out hc (by omega))
    replace Dh0 : Hid (IterA true (u12.heap.size) u13.heap.size u14 ar0 ah0 nh0 ch0 rows0 lah0 lnh0 lch0 lw0 gah0 gnh0 gch0 gh0 pah0 pnh0 pch0 ps0) := hid (beIter Dh0.out hc (by omega))
    replace HW : Hid (Below w.heap.size w u14) := hid (Below.calm HW.out hc)
    have DE : Hid (IterS (u13.heap.size) u14.heap.size u14 dar aE nE cE drows laE lnE lcE dlw gaE gnE gcE dgh paE pnE pcE dps) := hid (wdIterS ho (by first | with_reducible exact Nat.le_refl _ | omega | (simp; done) | (simp; omega) | exact Nat.le_refl _))
    clear ho hb hc
    go_wp2_with fail
    refine (eqK_Iter dar aE nE cE drows laE lnE lcE dlw gaE gnE gcE dgh paE pnE pcE dps aW nW cW laW lnW lcW gaW gnW gcW paW pnW pcW _ ((beIterS (B := u14.heap.size) DE.out (by repeat (first | with_reducible assumption | with_reducible exact Below.refl _ _ | with_reducible refine below_drewN ?_ _ | with_reducible refine Below.al ?_ (by first | with_reducible exact Nat.le_refl _ | omega | (simp; done) | (simp; omega) | exact Nat.le_refl _) _ | with_reducible refine Below.setCell ?_ (by first | with_reducible exact Nat.le_refl _ | omega | (simp; done) | (simp; omega) | exact Nat.le_refl _) _ | assumption | exact Below.refl _ _ | refine below_drewN ?_ _ | refine Below.al ?_ (by first | with_reducible exact Nat.le_refl _ | omega | (simp; done) | (simp; omega) | exact Nat.le_refl _) _ | refine Below.setCell ?_ (by first | with_reducible exact Nat.le_refl _ | omega | (simp; done) | (simp; omega) | exact Nat.le_refl _) _)) (by first | with_reducible exact Nat.le_refl _ | omega | (simp; done) | (simp; omega) | exact Nat.le_refl _))).it (by first | with_reducible exact Nat.le_refl _ | omega | (simp; done) | (simp; omega) | exact Nat.le_refl _) (beIter (B := u14.heap.size) DW.out (by repeat (first | with_reducible assumption | with_reducible exact Below.refl _ _ | with_reducible refine below_drewN ?_ _ | with_reducible refine Below.al ?_ (by first | with_reducible exact Nat.le_refl _ | omega | (simp; done) | (simp; omega) | exact Nat.le_refl _) _ | with_reducible refine Below.setCell ?_ (by first | with_reducible exact Nat.le_refl _ | omega | (simp; done) | (simp; omega) | exact Nat.le_refl _) _ | assumption | exact Below.refl _ _ | refine below_drewN ?_ _ | refine Below.al ?_ (by first | with_reducible exact Nat.le_refl _ | omega | (simp; done) | (simp; omega) | exact Nat.le_refl _) _ | refine Below.setCell ?_ (by first | with_reducible exact Nat.le_refl _ | omega | (simp; done) | (simp; omega) | exact Nat.le_refl _) _)) (by first | with_reducible exact Nat.le_refl _ | omega | (simp; done) | (simp; omega) | exact Nat.le_refl _)) (by first | with_reducible exact Nat.le_refl _ | omega | (simp; done) | (simp; omega) | exact Nat.le_refl _)).mono ?_
    rintro e u15 ⟨rfl, hb⟩
    have hc : Below u14.heap.size u14 u15 := Below.trans (by repeat (first | with_reducible assumption | with_reducible exact Below.refl _ _ | with_reducible refine below_drewN ?_ _ | with_reducible refine Below.al ?_ (by first | with_reducible exact Nat.le_refl _ | omega | (simp; done) | (simp; omega) | exact Nat.le_refl _) _ | with_reducible refine Below.setCell ?_ (by first | with_reducible exact Nat.le_refl _ | omega | (simp; done) | (simp; omega) | exact Nat.le_refl _) _ | assumption | exact Below.refl _ _ | refine below_drewN ?_ _ | refine Below.al ?_ (by first | with_reducible exact Nat.le_refl _ | omega | (simp; done) | (simp; omega) | exact Nat.le_refl _) _ | refine Below.setCell ?_ (by first | with_reducible exact Nat.le_refl _ | omega | (simp; done) | (simp; omega) | exact Nat.le_refl _) _)) (hb.mono (by first | with_reducible exact Nat.le_refl _ | omega | (simp; done) | (simp; omega) | exact Nat.le_refl _))
    have z15 : u14.heap.size ≤ u15.heap.size := hc.size
    replace B0c0 : u15.cell? ⟨w.heap.size, 0, none⟩ = some (.int .i64 ar0) := (by rw [(bcell hc).1 _ _ B0s]; exact B0c0)
    replace B0c1 : u15.cell? ⟨w.heap.size, 1, none⟩ = some (.slice a0 n0 c0) := (by rw [(bcell hc).1 _ _ B0s]; exact B0c1)
    replace B0c2 : u15.cell? ⟨w.heap.size, 2, none⟩ = some (.slice la0 ln0 lc0) := (by rw [(bcell hc).1 _ _ B0s]; exact B0c2)
    replace B0c3 : u15.cell? ⟨w.heap.size, 3, none⟩ = some (.slice ga0 gn0 gc0) := (by rw [(bcell hc).1 _ _ B0s]; exact B0c3)
    replace B0c4 : u15.cell? ⟨w.heap.size, 4, none⟩ = some (.slice pa0 pn0 pc0) := (by rw [(bcell hc).1 _ _ B0s]; exact B0c4)
    replace B0s : w.heap.size < u15.heap.size := (by omega)
    replace B1c0 : u15.cell? ⟨u3.heap.size, 0, none⟩ = some (.int .i64 dar) := (by rw [(bcell hc).1 _ _ B1s]; exact B1c0)
    replace B1c1 : u15.cell? ⟨u3.heap.size, 1, none⟩ = some (.slice aW nW cW) := (by rw [(bcell hc).1 _ _ B1s]; exact B1c1)
    replace B1c2 : u15.cell? ⟨u3.heap.size, 2, none⟩ = some (.slice laW lnW lcW) := (by rw [(bcell hc).1 _ _ B1s]; exact B1c2)
    replace B1c3 : u15.cell? ⟨u3.heap.size, 3, none⟩ = some (.slice gaW gnW gcW) := (by rw [(bcell hc).1 _ _ B1s]; exact B1c3)
    replace B1c4 : u15.cell? ⟨u3.heap.size, 4, none⟩ = some (.slice paW pnW pcW) := (by rw [(bcell hc).1 _ _ B1s]; exact B1c4)
    replace B1s : u3.heap.size < u15.heap.size := (by omega)
    replace B2c0 : u15.cell? ⟨u4.heap.size, 0, none⟩ = some (.int .i64 ar0) := (by rw [(bcell hc).1 _ _ B2s]; exact B2c0)
    replace B2c1 : u15.cell? ⟨u4.heap.size, 1, none⟩ = some (.slice ax0 nx0 cx0) := (by rw [(bcell hc).1 _ _ B2s]; exact B2c1)
    replace B2c2 : u15.cell? ⟨u4.heap.size, 2, none⟩ = some (.slice lax0 lnx0 lcx0) := (by rw [(bcell hc).1 _ _ B2s]; exact B2c2)
    replace B2c3 : u15.cell? ⟨u4.heap.size, 3, none⟩ = some (.slice gax0 gnx0 gcx0) := (by rw [(bcell hc).1 _ _ B2s]; exact B2c3)
    replace B2c4 : u15.cell? ⟨u4.heap.size, 4, none⟩ = some (.slice pax0 pnx0 pcx0) := (by rw [(bcell hc).1 _ _ B2s]; exact B2c4)
    replace B2s : u4.heap.size < u15.heap.size := (by omega)
    replace B3c0 : u15.cell? ⟨u5.heap.size, 0, none⟩ = some (.int .i64 dar) := (by rw [(bcell hc).1 _ _ B3s]; exact B3c0)
    replace B3c1 : u15.cell? ⟨u5.heap.size, 1, none⟩ = some (.slice aG nG cG) := (by rw [(bcell hc).1 _ _ B3s]; exact B3c1)
    replace B3c2 : u15.cell? ⟨u5.heap.size, 2, none⟩ = some (.slice laG lnG lcG) := (by rw [(bcell hc).1 _ _ B3s]; exact B3c2)
    replace B3c3 : u15.cell? ⟨u5.heap.size, 3, none⟩ = some (.slice gaG gnG gcG) := (by rw [(bcell hc).1 _ _ B3s]; exact B3c3)
    replace B3c4 : u15.cell? ⟨u5.heap.size, 4, none⟩ = some (.slice paG pnG pcG) := (by rw [(bcell hc).1 _ _ B3s]; exact B3c4)
    replace B3s : u5.heap.size < u15.heap.size := (by omega)
    have B4c0 : u15.cell? ⟨u14.heap.size, 0, none⟩ = some (.int .i64 dar) := (by rw [(bcell hb).1 _ _ (by first | omega | (simp; done) | (simp; omega))]; first | with_reducible assumption | (go_simp; done) | assumption | (simp [World.cell?]; done))
    have B4c1 : u15.cell? ⟨u14.heap.size, 1, none⟩ = some (.slice aE nE cE) := (by rw [(bcell hb).1 _ _ (by first | omega | (simp; done) | (simp; omega))]; first | with_reducible assumption | (go_simp; done) | assumption | (simp [World.cell?]; done))
    have B4c2 : u15.cell? ⟨u14.heap.size, 2, none⟩ = some (.slice laE lnE lcE) := (by rw [(bcell hb).1 _ _ (by first | omega | (simp; done) | (simp; omega))]; first | with_reducible assumption | (go_simp; done) | assumption | (simp [World.cell?]; done))
    have B4c3 : u15.cell? ⟨u14.heap.size, 3, none⟩ = some (.slice gaE gnE gcE) := (by rw [(bcell hb).1 _ _ (by first | omega | (simp; done) | (simp; omega))]; first | with_reducible assumption | (go_simp; done) | assumption | (simp [World.cell?]; done))
    have B4c4 : u15.cell? ⟨u14.heap.size, 4, none⟩ = some (.slice paE pnE pcE) := (by rw [(bcell hb).1 _ _ (by first | omega | (simp; done) | (simp; omega))]; first | with_reducible assumption | (go_simp; done) | assumption | (simp [World.cell?]; done))
    have B4p : u14.heap.size < u15.heap.size := World.block_lt_of_cell? _ _ B4c0
    have B4s : u14.heap.size < u15.heap.size := B4p
    replace DA0 : Hid (IterA false (0) w.heap.size u15 ar0 a0 n0 c0 rows0 la0 ln0 lc0 lw0 ga0 gn0 gc0 gh0 pa0 pn0 pc0 ps0) := hid (beIter DA0.out hc (by omega))
    replace DW : Hid (IterA true (u2.heap.size) u3.heap.size u15 dar aW nW cW drows laW lnW lcW dlw gaW gnW gcW dgh paW pnW pcW dps) := hid (beIter DW.out hc (by omega))
    replace DM : Hid (IterA true (u4.heap.size + 1) u5.heap.size u15 (dar) aG nG cG (mkIR 1 drows) laG lnG lcG (mkIL 1 drows dlw) gaG gnG gcG (mkIH 1 drows dlw dgh) paG pnG pcG (mkIP 1 drows dlw dgh dps)) := hid (beIter DM.out hc (by omega))
    replace Dh0 : Hid (IterA true (u12.heap.size) u13.heap.size u15 ar0 ah0 nh0 ch0 rows0 lah0 lnh0 lch0 lw0 gah0 gnh0 gch0 gh0 pah0 pnh0 pch0 ps0) := hid (beIter Dh0.out hc (by omega))
    replace DE : Hid (IterS (u13.heap.size) u14.heap.size u15 dar aE nE cE drows laE lnE lcE dlw gaE gnE gcE dgh paE pnE pcE dps) := hid (beIterS DE.out hc (by omega))
    replace HW : Hid (Below w.heap.size w u15) := hid (Below.calm HW.out hc)
    clear hb hc
    go_wp2_with fail
    refine (heldK_IterO dar aG nG cG drows laG lnG lcG dlw gaG gnG gcG dgh paG pnG pcG dps 1 _ (beIter (B := u15.heap.size) DM.out (by repeat (first | with_reducible assumption | with_reducible exact Below.refl _ _ | with_reducible refine below_drewN ?_ _ | with_reducible refine Below.al ?_ (by first | with_reducible exact Nat.le_refl _ | omega | (simp; done) | (simp; omega) | exact Nat.le_refl _) _ | with_reducible refine Below.setCell ?_ (by first | with_reducible exact Nat.le_refl _ | omega | (simp; done) | (simp; omega) | exact Nat.le_refl _) _ | assumption | exact Below.refl _ _ | refine below_drewN ?_ _ | refine Below.al ?_ (by first | with_reducible exact Nat.le_refl _ | omega | (simp; done) | (simp; omega) | exact Nat.le_refl _) _ | refine Below.setCell ?_ (by first | with_reducible exact Nat.le_refl _ | omega | (simp; done) | (simp; omega) | exact Nat.le_refl _) _)) (by first | with_reducible exact Nat.le_refl _ | omega | (simp; done) | (simp; omega) | exact Nat.le_refl _)) (by first | with_reducible exact Nat.le_refl _ | omega | (simp; done) | (simp; omega) | exact Nat.le_refl _) (by omega) (by omega) HSG.out).mono ?_
    rintro e u16 ⟨rfl, hb⟩
    rw [← HLG.out, ← HKM.out]
    have hc : Below u15.heap.size u15 u16 := Below.trans (by repeat (first | with_reducible assumption | with_reducible exact Below.refl _ _ | with_reducible refine below_drewN ?_ _ | with_reducible refine Below.al ?_ (by first | with_reducible exact Nat.le_refl _ | omega | (simp; done) | (simp; omega) | exact Nat.le_refl _) _ | with_reducible refine Below.setCell ?_ (by first | with_reducible exact Nat.le_refl _ | omega | (simp; done) | (simp; omega) | exact Nat.le_refl _) _ | assumption | exact Below.refl _ _ | refine below_drewN ?_ _ | refine Below.al ?_ (by first | with_reducible exact Nat.le_refl _ | omega | (simp; done) | (simp; omega) | exact Nat.le_refl _) _ | refine Below.setCell ?_ (by first | with_reducible exact Nat.le_refl _ | omega | (simp; done) | (simp; omega) | exact Nat.le_refl _) _)) (hb.mono (by first | with_reducible exact Nat.le_refl _ | omega | (simp; done) | (simp; omega) | exact Nat.le_refl _))
    have z16 : u15.heap.size ≤ u16.heap.size := hc.size
    replace B0c0 : u16.cell? ⟨w.heap.size, 0, none⟩ = some (.int .i64 ar0) := (by rw [(bcell hc).1 _ _ B0s]; exact B0c0)
    replace B0c1 : u16.cell? ⟨w.heap.size, 1, none⟩ = some (.slice a0 n0 c0) := (by rw [(bcell hc).1 _ _ B0s]; exact B0c1)
    replace B0c2 : u16.cell? ⟨w.heap.size, 2, none⟩ = some (.slice la0 ln0 lc0) := (by rw [(bcell hc).1 _ _ B0s]; exact B0c2)
    replace B0c3 : u16.cell? ⟨w.heap.size, 3, none⟩ = some (.slice ga0 gn0 gc0) := (by rw [(bcell hc).1 _ _ B0s]; exact B0c3)
    replace B0c4 : u16.cell? ⟨w.heap.size, 4, none⟩ = some (.slice pa0 pn0 pc0) := (by rw [(bcell hc).1 _ _ B0s]; exact B0c4)
    replace B0s : w.heap.size < u16.heap.size := (by omega)
    replace B1c0 : u16.cell? ⟨u3.heap.size, 0, none⟩ = some (.int .i64 dar) := (by rw [(bcell hc).1 _ _ B1s]; exact B1c0)
    replace B1c1 : u16.cell? ⟨u3.heap.size, 1, none⟩ = some (.slice aW nW cW) := (by rw [(bcell hc).1 _ _ B1s]; exact B1c1)
    replace B1c2 : u16.cell? ⟨u3.heap.size, 2, none⟩ = some (.slice laW lnW lcW) := (by rw [(bcell hc).1 _ _ B1s]; exact B1c2)
    replace B1c3 : u16.cell? ⟨u3.heap.size, 3, none⟩ = some (.slice gaW gnW gcW) := (by rw [(bcell hc).1 _ _ B1s]; exact B1c3)
    replace B1c4 : u16.cell? ⟨u3.heap.size, 4, none⟩ = some (.slice paW pnW pcW) := (by rw [(bcell hc).1 _ _ B1s]; exact B1c4)
    replace B1s : u3.heap.size < u16.heap.size := (by omega)
    replace B2c0 : u16.cell? ⟨u4.heap.size, 0, none⟩ = some (.int .i64 ar0) := (by rw [(bcell hc).1 _ _ B2s]; exact B2c0)
    replace B2c1 : u16.cell? ⟨u4.heap.size, 1, none⟩ = some (.slice ax0 nx0 cx0) := (by rw [(bcell hc).1 _ _ B2s]; exact B2c1)
    replace B2c2 : u16.cell? ⟨u4.heap.size, 2, none⟩ = some (.slice lax0 lnx0 lcx0) := (by rw [(bcell hc).1 _ _ B2s]; exact B2c2)
    replace B2c3 : u16.cell? ⟨u4.heap.size, 3, none⟩ = some (.slice gax0 gnx0 gcx0) := (by rw [(bcell hc).1 _ _ B2s]; exact B2c3)
    replace B2c4 : u16.cell? ⟨u4.heap.size, 4, none⟩ = some (.slice pax0 pnx0 pcx0) := (by rw [(bcell hc).1 _ _ B2s]; exact B2c4)
    replace B2s : u4.heap.size < u16.heap.size := (by omega)
    replace B3c0 : u16.cell? ⟨u5.heap.size, 0, none⟩ = some (.int .i64 dar) := (by rw [(bcell hc).1 _ _ B3s]; exact B3c0)
    replace B3c1 : u16.cell? ⟨u5.heap.size, 1, none⟩ = some (.slice aG nG cG) := (by rw [(bcell hc).1 _ _ B3s]; exact B3c1)
    replace B3c2 : u16.cell? ⟨u5.heap.size, 2, none⟩ = some (.slice laG lnG lcG) := (by rw [(bcell hc).1 _ _ B3s]; exact B3c2)
    replace B3c3 : u16.cell? ⟨u5.heap.size, 3, none⟩ = some (.slice gaG gnG gcG) := (by rw [(bcell hc).1 _ _ B3s]; exact B3c3)
    replace B3c4 : u16.cell? ⟨u5.heap.size, 4, none⟩ = some (.slice paG pnG pcG) := (by rw [(bcell hc).1 _ _ B3s]; exact B3c4)
    replace B3s : u5.heap.size < u16.heap.size := (by omega)
    replace B4c0 : u16.cell? ⟨u14.heap.size, 0, none⟩ = some (.int .i64 dar) := (by rw [(bcell hc).1 _ _ B4s]; exact B4c0)
    replace B4c1 : u16.cell? ⟨u14.heap.size, 1, none⟩ = some (.slice aE nE cE) := (by rw [(bcell hc).1 _ _ B4s]; exact B4c1)
    replace B4c2 : u16.cell? ⟨u14.heap.size, 2, none⟩ = some (.slice laE lnE lcE) := (by rw [(bcell hc).1 _ _ B4s]; exact B4c2)
    replace B4c3 : u16.cell? ⟨u14.heap.size, 3, none⟩ = some (.slice gaE gnE gcE) := (by rw [(bcell hc).1 _ _ B4s]; exact B4c3)
    replace B4c4 : u16.cell? ⟨u14.heap.size, 4, none⟩ = some (.slice paE pnE pcE) := (by rw [(bcell hc).1 _ _ B4s]; exact B4c4)
    replace B4s : u14.heap.size < u16.heap.size := (by omega)
    replace DA0 : Hid (IterA false (0) w.heap.size u16 ar0 a0 n0 c0 rows0 la0 ln0 lc0 lw0 ga0 gn0 gc0 gh0 pa0 pn0 pc0 ps0) := hid (beIter DA0.out hc (by omega))
    replace DW : Hid (IterA true (u2.heap.size) u3.heap.size u16 dar aW nW cW drows laW lnW lcW dlw gaW gnW gcW dgh paW pnW pcW dps) := hid (beIter DW.out hc (by omega))
    replace DM : Hid (IterA true (u4.heap.size + 1) u5.heap.size u16 (dar) aG nG cG (mkIR 1 drows) laG lnG lcG (mkIL 1 drows dlw) gaG gnG gcG (mkIH 1 drows dlw dgh) paG pnG pcG (mkIP 1 drows dlw dgh dps)) := hid (beIter DM.out hc (by omega))
    replace Dh0 : Hid (IterA true (u12.heap.size) u13.heap.size u16 ar0 ah0 nh0 ch0 rows0 lah0 lnh0 lch0 lw0 gah0 gnh0 gch0 gh0 pah0 pnh0 pch0 ps0) := hid (beIter Dh0.out hc (by omega))
    replace DE : Hid (IterS (u13.heap.size) u14.heap.size u16 dar aE nE cE drows laE lnE lcE dlw gaE gnE gcE dgh paE pnE pcE dps) := hid (beIterS DE.out hc (by omega))
    replace HW : Hid (Below w.heap.size w u16) := hid (Below.calm HW.out hc)
    clear hb hc
    go_wp2_with fail
    go_ret
    exact ⟨rfl, HW.out⟩
  · rw [szI_no hsz0]
    have HQ0 := hid hsz0; clear hsz0
    go_wp2_with fail
    go_ret
    exact ⟨rfl, HW.out⟩
end Go.Proofs.Ythochdlbmaiclaa
