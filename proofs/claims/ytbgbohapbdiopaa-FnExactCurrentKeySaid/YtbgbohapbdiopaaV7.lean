/- The walk of the law FnExactCurrentKey: it returns true and changes nothing that was there. Written by lawwalk.py. -/
import Derived.Test.YtbgbohapbdiopaaIt
import Derived.Test.YtbgbohapbdiopaaI6
namespace Go.Proofs.Ytbgbohapbdiopaa
open Go.RowKit
set_option maxHeartbeats 4000000 in
theorem law_FnExactCurrentKey (ar0 : Int) (a0 : Option Addr) (n0 : Nat) (c0 : Nat) (rows0 : List (List Int)) (la0 : Option Addr) (ln0 : Nat) (lc0 : Nat) (lw0 : List Int) (ga0 : Option Addr) (gn0 : Nat) (gc0 : Nat) (gh0 : List Int) (pa0 : Option Addr) (pn0 : Nat) (pc0 : Nat) (ps0 : List Int) (w : World) (hD0 : IterA false (0) w.heap.size w ar0 a0 n0 c0 rows0 la0 ln0 lc0 lw0 ga0 gn0 gc0 gh0 pa0 pn0 pc0 ps0) :
    Calls Try.prog 7 #[iterV ar0 a0 n0 c0 la0 ln0 lc0 ga0 gn0 gc0 pa0 pn0 pc0] w (Leaves w (.bool true)) := by
  have DA0 := hid hD0; clear hD0
  go_enter Try.func7, Try.ntmps7
  go_wp2_with fail
  refine (szK_Iter ar0 a0 n0 c0 rows0 la0 ln0 lc0 lw0 ga0 gn0 gc0 gh0 pa0 pn0 pc0 ps0 1048576 _ (beIter (B := w.heap.size) DA0.out (by repeat (first | assumption | exact Below.refl _ _ | refine below_drewN ?_ _ | refine Below.al ?_ (by first | exact Nat.le_refl _ | omega | (simp; done) | (simp; omega)) _ | refine Below.setCell ?_ (by first | exact Nat.le_refl _ | omega | (simp; done) | (simp; omega)) _)) (by first | exact Nat.le_refl _ | omega | (simp; done) | (simp; omega))) (by first | exact Nat.le_refl _ | omega | (simp; done) | (simp; omega)) (by omega) (by omega)).mono ?_
  rintro e u1 ⟨rfl, hb⟩
  have hc : Below w.heap.size w u1 := Below.trans (by repeat (first | assumption | exact Below.refl _ _ | refine below_drewN ?_ _ | refine Below.al ?_ (by first | exact Nat.le_refl _ | omega | (simp; done) | (simp; omega)) _ | refine Below.setCell ?_ (by first | exact Nat.le_refl _ | omega | (simp; done) | (simp; omega)) _)) (hb.mono (by first | exact Nat.le_refl _ | omega | (simp; done) | (simp; omega)))
  have z1 : w.heap.size ≤ u1.heap.size := hc.size
  have B0c0 : u1.cell? ⟨w.heap.size, 0, none⟩ = some (.int .i64 ar0) := (by rw [(bcell hb).1 _ _ (by first | (simp; done) | (simp; omega))]; first | (go_simp; done) | (simp [World.cell?]; done))
  have B0c1 : u1.cell? ⟨w.heap.size, 1, none⟩ = some (.slice a0 n0 c0) := (by rw [(bcell hb).1 _ _ (by first | (simp; done) | (simp; omega))]; first | (go_simp; done) | (simp [World.cell?]; done))
  have B0c2 : u1.cell? ⟨w.heap.size, 2, none⟩ = some (.slice la0 ln0 lc0) := (by rw [(bcell hb).1 _ _ (by first | (simp; done) | (simp; omega))]; first | (go_simp; done) | (simp [World.cell?]; done))
  have B0c3 : u1.cell? ⟨w.heap.size, 3, none⟩ = some (.slice ga0 gn0 gc0) := (by rw [(bcell hb).1 _ _ (by first | (simp; done) | (simp; omega))]; first | (go_simp; done) | (simp [World.cell?]; done))
  have B0c4 : u1.cell? ⟨w.heap.size, 4, none⟩ = some (.slice pa0 pn0 pc0) := (by rw [(bcell hb).1 _ _ (by first | (simp; done) | (simp; omega))]; first | (go_simp; done) | (simp [World.cell?]; done))
  have B0p : w.heap.size < u1.heap.size := World.block_lt_of_cell? _ _ B0c0
  have B0s : w.heap.size < u1.heap.size := B0p
  replace DA0 : Hid (IterA false (0) w.heap.size u1 ar0 a0 n0 c0 rows0 la0 ln0 lc0 lw0 ga0 gn0 gc0 gh0 pa0 pn0 pc0 ps0) := hid (beIter DA0.out hc (by omega))
  have HW := hid hc
  clear hb hc
  by_cases hsz0 : (szIter rows0 lw0 gh0 ps0 : Int) ≤ 1048576
  · rw [szI_yes hsz0]
    obtain ⟨left0, hleft0⟩ : ∃ l, l = 1048576 - (szIter rows0 lw0 gh0 ps0 : Int) := ⟨_, rfl⟩
    rw [← hleft0]
    have hlo0 : 0 ≤ left0 := by omega
    have hhi0 : left0 ≤ 1048576 := by omega
    have HS0 : Hid (szIter rows0 lw0 gh0 ps0 ≤ 1048576) := hid (by omega)
    have HQ0 := hid (And.intro hsz0 hleft0); clear hsz0 hleft0
    go_wp2_with fail
    refine (toK_Iter ar0 a0 n0 c0 rows0 la0 ln0 lc0 lw0 ga0 gn0 gc0 gh0 pa0 pn0 pc0 ps0 _ (beIter (B := u1.heap.size) DA0.out (by repeat (first | assumption | exact Below.refl _ _ | refine below_drewN ?_ _ | refine Below.al ?_ (by first | exact Nat.le_refl _ | omega | (simp; done) | (simp; omega)) _ | refine Below.setCell ?_ (by first | exact Nat.le_refl _ | omega | (simp; done) | (simp; omega)) _)) (by first | exact Nat.le_refl _ | omega | (simp; done) | (simp; omega))) (by first | exact Nat.le_refl _ | omega | (simp; done) | (simp; omega)) HS0.out).mono ?_
    rintro e u2 ⟨ap0, np0, cp0, lap0, lnp0, lcp0, gap0, gnp0, gcp0, pap0, pnp0, pcp0, rfl, ho, hb⟩
    have hc : Below u1.heap.size u1 u2 := Below.trans (by repeat (first | assumption | exact Below.refl _ _ | refine below_drewN ?_ _ | refine Below.al ?_ (by first | exact Nat.le_refl _ | omega | (simp; done) | (simp; omega)) _ | refine Below.setCell ?_ (by first | exact Nat.le_refl _ | omega | (simp; done) | (simp; omega)) _)) (hb.mono (by first | exact Nat.le_refl _ | omega | (simp; done) | (simp; omega)))
    have z2 : u1.heap.size ≤ u2.heap.size := hc.size
    replace B0c0 : u2.cell? ⟨w.heap.size, 0, none⟩ = some (.int .i64 ar0) := (by rw [(bcell hc).1 _ _ B0s]; exact B0c0)
    replace B0c1 : u2.cell? ⟨w.heap.size, 1, none⟩ = some (.slice a0 n0 c0) := (by rw [(bcell hc).1 _ _ B0s]; exact B0c1)
    replace B0c2 : u2.cell? ⟨w.heap.size, 2, none⟩ = some (.slice la0 ln0 lc0) := (by rw [(bcell hc).1 _ _ B0s]; exact B0c2)
    replace B0c3 : u2.cell? ⟨w.heap.size, 3, none⟩ = some (.slice ga0 gn0 gc0) := (by rw [(bcell hc).1 _ _ B0s]; exact B0c3)
    replace B0c4 : u2.cell? ⟨w.heap.size, 4, none⟩ = some (.slice pa0 pn0 pc0) := (by rw [(bcell hc).1 _ _ B0s]; exact B0c4)
    replace B0s : w.heap.size < u2.heap.size := (by omega)
    replace DA0 : Hid (IterA false (0) w.heap.size u2 ar0 a0 n0 c0 rows0 la0 ln0 lc0 lw0 ga0 gn0 gc0 gh0 pa0 pn0 pc0 ps0) := hid (beIter DA0.out hc (by omega))
    replace HW : Hid (Below w.heap.size w u2) := hid (Below.calm HW.out hc)
    have Dp0 : Hid (IterA true (u1.heap.size) u2.heap.size u2 ar0 ap0 np0 cp0 rows0 lap0 lnp0 lcp0 lw0 gap0 gnp0 gcp0 gh0 pap0 pnp0 pcp0 ps0) := hid (wdIter ho (by first | exact Nat.le_refl _ | omega | (simp; done) | (simp; omega)))
    clear ho hb hc
    obtain ⟨r0, hr0⟩ : ∃ r : Int, curKey ar0 rows0 lw0 gh0 ps0 = r := ⟨_, rfl⟩
    have hne0 : ((r0 : Int) != r0) = false := by simp
    have HR0 := hid hr0; clear hr0
    obtain ⟨r1, hr1⟩ : ∃ r : Bool, standsF ar0 rows0 lw0 gh0 ps0 = r := ⟨_, rfl⟩
    have hne1 : ((r1 : Bool) != r1) = false := by simp
    have HR1 := hid hr1; clear hr1
    go_wp2_with fail
    refine (specCurKey ar0 ap0 np0 cp0 rows0 lap0 lnp0 lcp0 lw0 gap0 gnp0 gcp0 gh0 pap0 pnp0 pcp0 ps0 _ (beIter (B := u2.heap.size) Dp0.out (by repeat (first | assumption | exact Below.refl _ _ | refine below_drewN ?_ _ | refine Below.al ?_ (by first | exact Nat.le_refl _ | omega | (simp; done) | (simp; omega)) _ | refine Below.setCell ?_ (by first | exact Nat.le_refl _ | omega | (simp; done) | (simp; omega)) _)) (by first | exact Nat.le_refl _ | omega | (simp; done) | (simp; omega))) (by first | exact Nat.le_refl _ | omega | (simp; done) | (simp; omega))).mono ?_
    rintro e u3 ⟨rfl, hb⟩
    rw [HR0.out, HR1.out]
    have hc : Below u2.heap.size u2 u3 := Below.trans (by repeat (first | assumption | exact Below.refl _ _ | refine below_drewN ?_ _ | refine Below.al ?_ (by first | exact Nat.le_refl _ | omega | (simp; done) | (simp; omega)) _ | refine Below.setCell ?_ (by first | exact Nat.le_refl _ | omega | (simp; done) | (simp; omega)) _)) (hb.mono (by first | exact Nat.le_refl _ | omega | (simp; done) | (simp; omega)))
    have z3 : u2.heap.size ≤ u3.heap.size := hc.size
    replace B0c0 : u3.cell? ⟨w.heap.size, 0, none⟩ = some (.int .i64 ar0) := (by rw [(bcell hc).1 _ _ B0s]; exact B0c0)
    replace B0c1 : u3.cell? ⟨w.heap.size, 1, none⟩ = some (.slice a0 n0 c0) := (by rw [(bcell hc).1 _ _ B0s]; exact B0c1)
    replace B0c2 : u3.cell? ⟨w.heap.size, 2, none⟩ = some (.slice la0 ln0 lc0) := (by rw [(bcell hc).1 _ _ B0s]; exact B0c2)
    replace B0c3 : u3.cell? ⟨w.heap.size, 3, none⟩ = some (.slice ga0 gn0 gc0) := (by rw [(bcell hc).1 _ _ B0s]; exact B0c3)
    replace B0c4 : u3.cell? ⟨w.heap.size, 4, none⟩ = some (.slice pa0 pn0 pc0) := (by rw [(bcell hc).1 _ _ B0s]; exact B0c4)
    replace B0s : w.heap.size < u3.heap.size := (by omega)
    replace DA0 : Hid (IterA false (0) w.heap.size u3 ar0 a0 n0 c0 rows0 la0 ln0 lc0 lw0 ga0 gn0 gc0 gh0 pa0 pn0 pc0 ps0) := hid (beIter DA0.out hc (by omega))
    replace Dp0 : Hid (IterA true (u1.heap.size) u2.heap.size u3 ar0 ap0 np0 cp0 rows0 lap0 lnp0 lcp0 lw0 gap0 gnp0 gcp0 gh0 pap0 pnp0 pcp0 ps0) := hid (beIter Dp0.out hc (by omega))
    replace HW : Hid (Below w.heap.size w u3) := hid (Below.calm HW.out hc)
    clear hb hc
    go_wp2_with fail
    refine (toK_Iter ar0 a0 n0 c0 rows0 la0 ln0 lc0 lw0 ga0 gn0 gc0 gh0 pa0 pn0 pc0 ps0 _ (beIter (B := u3.heap.size) DA0.out (by repeat (first | assumption | exact Below.refl _ _ | refine below_drewN ?_ _ | refine Below.al ?_ (by first | exact Nat.le_refl _ | omega | (simp; done) | (simp; omega)) _ | refine Below.setCell ?_ (by first | exact Nat.le_refl _ | omega | (simp; done) | (simp; omega)) _)) (by first | exact Nat.le_refl _ | omega | (simp; done) | (simp; omega))) (by first | exact Nat.le_refl _ | omega | (simp; done) | (simp; omega)) HS0.out).mono ?_
    rintro e u4 ⟨ax0, nx0, cx0, lax0, lnx0, lcx0, gax0, gnx0, gcx0, pax0, pnx0, pcx0, rfl, ho, hb⟩
    have hc : Below u3.heap.size u3 u4 := Below.trans (by repeat (first | assumption | exact Below.refl _ _ | refine below_drewN ?_ _ | refine Below.al ?_ (by first | exact Nat.le_refl _ | omega | (simp; done) | (simp; omega)) _ | refine Below.setCell ?_ (by first | exact Nat.le_refl _ | omega | (simp; done) | (simp; omega)) _)) (hb.mono (by first | exact Nat.le_refl _ | omega | (simp; done) | (simp; omega)))
    have z4 : u3.heap.size ≤ u4.heap.size := hc.size
    replace B0c0 : u4.cell? ⟨w.heap.size, 0, none⟩ = some (.int .i64 ar0) := (by rw [(bcell hc).1 _ _ B0s]; exact B0c0)
    replace B0c1 : u4.cell? ⟨w.heap.size, 1, none⟩ = some (.slice a0 n0 c0) := (by rw [(bcell hc).1 _ _ B0s]; exact B0c1)
    replace B0c2 : u4.cell? ⟨w.heap.size, 2, none⟩ = some (.slice la0 ln0 lc0) := (by rw [(bcell hc).1 _ _ B0s]; exact B0c2)
    replace B0c3 : u4.cell? ⟨w.heap.size, 3, none⟩ = some (.slice ga0 gn0 gc0) := (by rw [(bcell hc).1 _ _ B0s]; exact B0c3)
    replace B0c4 : u4.cell? ⟨w.heap.size, 4, none⟩ = some (.slice pa0 pn0 pc0) := (by rw [(bcell hc).1 _ _ B0s]; exact B0c4)
    replace B0s : w.heap.size < u4.heap.size := (by omega)
    replace DA0 : Hid (IterA false (0) w.heap.size u4 ar0 a0 n0 c0 rows0 la0 ln0 lc0 lw0 ga0 gn0 gc0 gh0 pa0 pn0 pc0 ps0) := hid (beIter DA0.out hc (by omega))
    replace HW : Hid (Below w.heap.size w u4) := hid (Below.calm HW.out hc)
    have Dx0 : Hid (IterA true (u3.heap.size) u4.heap.size u4 ar0 ax0 nx0 cx0 rows0 lax0 lnx0 lcx0 lw0 gax0 gnx0 gcx0 gh0 pax0 pnx0 pcx0 ps0) := hid (wdIter ho (by first | exact Nat.le_refl _ | omega | (simp; done) | (simp; omega)))
    clear ho hb hc
    go_wp2_with fail
    refine (implCurKey ar0 ax0 nx0 cx0 rows0 lax0 lnx0 lcx0 lw0 gax0 gnx0 gcx0 gh0 pax0 pnx0 pcx0 ps0 _ (beIter (B := u4.heap.size) Dx0.out (by repeat (first | assumption | exact Below.refl _ _ | refine below_drewN ?_ _ | refine Below.al ?_ (by first | exact Nat.le_refl _ | omega | (simp; done) | (simp; omega)) _ | refine Below.setCell ?_ (by first | exact Nat.le_refl _ | omega | (simp; done) | (simp; omega)) _)) (by first | exact Nat.le_refl _ | omega | (simp; done) | (simp; omega))) (by first | exact Nat.le_refl _ | omega | (simp; done) | (simp; omega))).mono ?_
    rintro e u5 ⟨rfl, hb⟩
    rw [HR0.out, HR1.out]
    have hc : Below u4.heap.size u4 u5 := Below.trans (by repeat (first | assumption | exact Below.refl _ _ | refine below_drewN ?_ _ | refine Below.al ?_ (by first | exact Nat.le_refl _ | omega | (simp; done) | (simp; omega)) _ | refine Below.setCell ?_ (by first | exact Nat.le_refl _ | omega | (simp; done) | (simp; omega)) _)) (hb.mono (by first | exact Nat.le_refl _ | omega | (simp; done) | (simp; omega)))
    have z5 : u4.heap.size ≤ u5.heap.size := hc.size
    replace B0c0 : u5.cell? ⟨w.heap.size, 0, none⟩ = some (.int .i64 ar0) := (by rw [(bcell hc).1 _ _ B0s]; exact B0c0)
    replace B0c1 : u5.cell? ⟨w.heap.size, 1, none⟩ = some (.slice a0 n0 c0) := (by rw [(bcell hc).1 _ _ B0s]; exact B0c1)
    replace B0c2 : u5.cell? ⟨w.heap.size, 2, none⟩ = some (.slice la0 ln0 lc0) := (by rw [(bcell hc).1 _ _ B0s]; exact B0c2)
    replace B0c3 : u5.cell? ⟨w.heap.size, 3, none⟩ = some (.slice ga0 gn0 gc0) := (by rw [(bcell hc).1 _ _ B0s]; exact B0c3)
    replace B0c4 : u5.cell? ⟨w.heap.size, 4, none⟩ = some (.slice pa0 pn0 pc0) := (by rw [(bcell hc).1 _ _ B0s]; exact B0c4)
    replace B0s : w.heap.size < u5.heap.size := (by omega)
    have B1c0 : u5.cell? ⟨u4.heap.size, 0, none⟩ = some (.int .i64 ar0) := (by rw [(bcell hb).1 _ _ (by first | (simp; done) | (simp; omega))]; first | (go_simp; done) | (simp [World.cell?]; done))
    have B1c1 : u5.cell? ⟨u4.heap.size, 1, none⟩ = some (.slice ax0 nx0 cx0) := (by rw [(bcell hb).1 _ _ (by first | (simp; done) | (simp; omega))]; first | (go_simp; done) | (simp [World.cell?]; done))
    have B1c2 : u5.cell? ⟨u4.heap.size, 2, none⟩ = some (.slice lax0 lnx0 lcx0) := (by rw [(bcell hb).1 _ _ (by first | (simp; done) | (simp; omega))]; first | (go_simp; done) | (simp [World.cell?]; done))
    have B1c3 : u5.cell? ⟨u4.heap.size, 3, none⟩ = some (.slice gax0 gnx0 gcx0) := (by rw [(bcell hb).1 _ _ (by first | (simp; done) | (simp; omega))]; first | (go_simp; done) | (simp [World.cell?]; done))
    have B1c4 : u5.cell? ⟨u4.heap.size, 4, none⟩ = some (.slice pax0 pnx0 pcx0) := (by rw [(bcell hb).1 _ _ (by first | (simp; done) | (simp; omega))]; first | (go_simp; done) | (simp [World.cell?]; done))
    have B1p : u4.heap.size < u5.heap.size := World.block_lt_of_cell? _ _ B1c0
    have B1s : u4.heap.size < u5.heap.size := B1p
    replace DA0 : Hid (IterA false (0) w.heap.size u5 ar0 a0 n0 c0 rows0 la0 ln0 lc0 lw0 ga0 gn0 gc0 gh0 pa0 pn0 pc0 ps0) := hid (beIter DA0.out hc (by omega))
    replace Dx0 : Hid (IterA true (u3.heap.size) u4.heap.size u5 ar0 ax0 nx0 cx0 rows0 lax0 lnx0 lcx0 lw0 gax0 gnx0 gcx0 gh0 pax0 pnx0 pcx0 ps0) := hid (beIter Dx0.out hc (by omega))
    replace HW : Hid (Below w.heap.size w u5) := hid (Below.calm HW.out hc)
    clear hb hc
    go_wp2_with fail
    go_region_held3 (fun w' => w'.cell? ⟨w.heap.size, 0, none⟩ = some (.int .i64 ar0) ∧ w'.cell? ⟨w.heap.size, 1, none⟩ = some (.slice a0 n0 c0) ∧ w'.cell? ⟨w.heap.size, 2, none⟩ = some (.slice la0 ln0 lc0) ∧ w'.cell? ⟨w.heap.size, 3, none⟩ = some (.slice ga0 gn0 gc0) ∧ w'.cell? ⟨w.heap.size, 4, none⟩ = some (.slice pa0 pn0 pc0) ∧ w'.cell? ⟨u4.heap.size, 0, none⟩ = some (.int .i64 ar0) ∧ w'.cell? ⟨u4.heap.size, 1, none⟩ = some (.slice ax0 nx0 cx0) ∧ w'.cell? ⟨u4.heap.size, 2, none⟩ = some (.slice lax0 lnx0 lcx0) ∧ w'.cell? ⟨u4.heap.size, 3, none⟩ = some (.slice gax0 gnx0 gcx0) ∧ w'.cell? ⟨u4.heap.size, 4, none⟩ = some (.slice pax0 pnx0 pcx0)) (refine ⟨?_, ?_, ?_, ?_, ?_, ?_, ?_, ?_, ?_, ?_⟩ <;> assumption)
      (first | (go_at_call 10; refine (toK_Iter ar0 a0 n0 c0 rows0 la0 ln0 lc0 lw0 ga0 gn0 gc0 gh0 pa0 pn0 pc0 ps0 _ (beIter (B := u5.heap.size) DA0.out (by repeat (first | assumption | exact Below.refl _ _ | refine below_drewN ?_ _ | refine Below.al ?_ (by first | exact Nat.le_refl _ | omega | (simp; done) | (simp; omega)) _ | refine Below.setCell ?_ (by first | exact Nat.le_refl _ | omega | (simp; done) | (simp; omega)) _)) (by first | exact Nat.le_refl _ | omega | (simp; done) | (simp; omega))) (by first | exact Nat.le_refl _ | omega | (simp; done) | (simp; omega)) HS0.out).mono ?_; rintro e u6 ⟨ay0, ny0, cy0, lay0, lny0, lcy0, gay0, gny0, gcy0, pay0, pny0, pcy0, rfl, ho, hb⟩; have hc : Below u5.heap.size u5 u6 := Below.trans (by repeat (first | assumption | exact Below.refl _ _ | refine below_drewN ?_ _ | refine Below.al ?_ (by first | exact Nat.le_refl _ | omega | (simp; done) | (simp; omega)) _ | refine Below.setCell ?_ (by first | exact Nat.le_refl _ | omega | (simp; done) | (simp; omega)) _)) (hb.mono (by first | exact Nat.le_refl _ | omega | (simp; done) | (simp; omega))); have z6 : u5.heap.size ≤ u6.heap.size := hc.size; replace B0c0 : u6.cell? ⟨w.heap.size, 0, none⟩ = some (.int .i64 ar0) := (by rw [(bcell hc).1 _ _ B0s]; exact B0c0); replace B0c1 : u6.cell? ⟨w.heap.size, 1, none⟩ = some (.slice a0 n0 c0) := (by rw [(bcell hc).1 _ _ B0s]; exact B0c1); replace B0c2 : u6.cell? ⟨w.heap.size, 2, none⟩ = some (.slice la0 ln0 lc0) := (by rw [(bcell hc).1 _ _ B0s]; exact B0c2); replace B0c3 : u6.cell? ⟨w.heap.size, 3, none⟩ = some (.slice ga0 gn0 gc0) := (by rw [(bcell hc).1 _ _ B0s]; exact B0c3); replace B0c4 : u6.cell? ⟨w.heap.size, 4, none⟩ = some (.slice pa0 pn0 pc0) := (by rw [(bcell hc).1 _ _ B0s]; exact B0c4); replace B0s : w.heap.size < u6.heap.size := (by omega); replace B1c0 : u6.cell? ⟨u4.heap.size, 0, none⟩ = some (.int .i64 ar0) := (by rw [(bcell hc).1 _ _ B1s]; exact B1c0); replace B1c1 : u6.cell? ⟨u4.heap.size, 1, none⟩ = some (.slice ax0 nx0 cx0) := (by rw [(bcell hc).1 _ _ B1s]; exact B1c1); replace B1c2 : u6.cell? ⟨u4.heap.size, 2, none⟩ = some (.slice lax0 lnx0 lcx0) := (by rw [(bcell hc).1 _ _ B1s]; exact B1c2); replace B1c3 : u6.cell? ⟨u4.heap.size, 3, none⟩ = some (.slice gax0 gnx0 gcx0) := (by rw [(bcell hc).1 _ _ B1s]; exact B1c3); replace B1c4 : u6.cell? ⟨u4.heap.size, 4, none⟩ = some (.slice pax0 pnx0 pcx0) := (by rw [(bcell hc).1 _ _ B1s]; exact B1c4); replace B1s : u4.heap.size < u6.heap.size := (by omega); replace DA0 : Hid (IterA false (0) w.heap.size u6 ar0 a0 n0 c0 rows0 la0 ln0 lc0 lw0 ga0 gn0 gc0 gh0 pa0 pn0 pc0 ps0) := hid (beIter DA0.out hc (by omega)); replace Dx0 : Hid (IterA true (u3.heap.size) u4.heap.size u6 ar0 ax0 nx0 cx0 rows0 lax0 lnx0 lcx0 lw0 gax0 gnx0 gcx0 gh0 pax0 pnx0 pcx0 ps0) := hid (beIter Dx0.out hc (by omega)); replace HW : Hid (Below w.heap.size w u6) := hid (Below.calm HW.out hc); have Dy0 : Hid (IterA true (u5.heap.size) u6.heap.size u6 ar0 ay0 ny0 cy0 rows0 lay0 lny0 lcy0 lw0 gay0 gny0 gcy0 gh0 pay0 pny0 pcy0 ps0) := hid (wdIter ho (by first | exact Nat.le_refl _ | omega | (simp; done) | (simp; omega))); clear ho hb hc) | (go_at_call 12; refine (eqK_Iter ar0 ax0 nx0 cx0 rows0 lax0 lnx0 lcx0 lw0 gax0 gnx0 gcx0 gh0 pax0 pnx0 pcx0 ps0 ay0 ny0 cy0 lay0 lny0 lcy0 gay0 gny0 gcy0 pay0 pny0 pcy0 _ (beIter (B := u6.heap.size) Dx0.out (by repeat (first | assumption | exact Below.refl _ _ | refine below_drewN ?_ _ | refine Below.al ?_ (by first | exact Nat.le_refl _ | omega | (simp; done) | (simp; omega)) _ | refine Below.setCell ?_ (by first | exact Nat.le_refl _ | omega | (simp; done) | (simp; omega)) _)) (by first | exact Nat.le_refl _ | omega | (simp; done) | (simp; omega))) (by first | exact Nat.le_refl _ | omega | (simp; done) | (simp; omega)) (beIter (B := u6.heap.size) Dy0.out (by repeat (first | assumption | exact Below.refl _ _ | refine below_drewN ?_ _ | refine Below.al ?_ (by first | exact Nat.le_refl _ | omega | (simp; done) | (simp; omega)) _ | refine Below.setCell ?_ (by first | exact Nat.le_refl _ | omega | (simp; done) | (simp; omega)) _)) (by first | exact Nat.le_refl _ | omega | (simp; done) | (simp; omega))) (by first | exact Nat.le_refl _ | omega | (simp; done) | (simp; omega))).mono ?_; rintro e u7 ⟨rfl, hb⟩; have hc : Below u6.heap.size u6 u7 := Below.trans (by repeat (first | assumption | exact Below.refl _ _ | refine below_drewN ?_ _ | refine Below.al ?_ (by first | exact Nat.le_refl _ | omega | (simp; done) | (simp; omega)) _ | refine Below.setCell ?_ (by first | exact Nat.le_refl _ | omega | (simp; done) | (simp; omega)) _)) (hb.mono (by first | exact Nat.le_refl _ | omega | (simp; done) | (simp; omega))); have z7 : u6.heap.size ≤ u7.heap.size := hc.size; replace B0c0 : u7.cell? ⟨w.heap.size, 0, none⟩ = some (.int .i64 ar0) := (by rw [(bcell hc).1 _ _ B0s]; exact B0c0); replace B0c1 : u7.cell? ⟨w.heap.size, 1, none⟩ = some (.slice a0 n0 c0) := (by rw [(bcell hc).1 _ _ B0s]; exact B0c1); replace B0c2 : u7.cell? ⟨w.heap.size, 2, none⟩ = some (.slice la0 ln0 lc0) := (by rw [(bcell hc).1 _ _ B0s]; exact B0c2); replace B0c3 : u7.cell? ⟨w.heap.size, 3, none⟩ = some (.slice ga0 gn0 gc0) := (by rw [(bcell hc).1 _ _ B0s]; exact B0c3); replace B0c4 : u7.cell? ⟨w.heap.size, 4, none⟩ = some (.slice pa0 pn0 pc0) := (by rw [(bcell hc).1 _ _ B0s]; exact B0c4); replace B0s : w.heap.size < u7.heap.size := (by omega); replace B1c0 : u7.cell? ⟨u4.heap.size, 0, none⟩ = some (.int .i64 ar0) := (by rw [(bcell hc).1 _ _ B1s]; exact B1c0); replace B1c1 : u7.cell? ⟨u4.heap.size, 1, none⟩ = some (.slice ax0 nx0 cx0) := (by rw [(bcell hc).1 _ _ B1s]; exact B1c1); replace B1c2 : u7.cell? ⟨u4.heap.size, 2, none⟩ = some (.slice lax0 lnx0 lcx0) := (by rw [(bcell hc).1 _ _ B1s]; exact B1c2); replace B1c3 : u7.cell? ⟨u4.heap.size, 3, none⟩ = some (.slice gax0 gnx0 gcx0) := (by rw [(bcell hc).1 _ _ B1s]; exact B1c3); replace B1c4 : u7.cell? ⟨u4.heap.size, 4, none⟩ = some (.slice pax0 pnx0 pcx0) := (by rw [(bcell hc).1 _ _ B1s]; exact B1c4); replace B1s : u4.heap.size < u7.heap.size := (by omega); replace DA0 : Hid (IterA false (0) w.heap.size u7 ar0 a0 n0 c0 rows0 la0 ln0 lc0 lw0 ga0 gn0 gc0 gh0 pa0 pn0 pc0 ps0) := hid (beIter DA0.out hc (by omega)); replace Dx0 : Hid (IterA true (u3.heap.size) u4.heap.size u7 ar0 ax0 nx0 cx0 rows0 lax0 lnx0 lcx0 lw0 gax0 gnx0 gcx0 gh0 pax0 pnx0 pcx0 ps0) := hid (beIter Dx0.out hc (by omega)); replace HW : Hid (Below w.heap.size w u7) := hid (Below.calm HW.out hc); clear hb hc))
    go_wp2_with fail
    go_ret
    exact ⟨rfl, HW.out⟩
  · rw [szI_no hsz0]
    have HQ0 := hid hsz0; clear hsz0
    go_wp2_with fail
    go_ret
    exact ⟨rfl, HW.out⟩
end Go.Proofs.Ytbgbohapbdiopaa
