/- The walk of the law FnExactVariableDegree: it returns true and changes nothing that was there. Written by lawwalk.py. -/
import Derived.Test.YtbjbgfeaiepejaaAQ2
import Derived.Test.YtbjbgfeaiepejaaB8
namespace Go.Proofs.Ytbjbgfeaiepejaa
open Go.RowKit
set_option maxHeartbeats 4000000 in
theorem law_FnExactVariableDegree (nv0 : Int) (a0 : Option Addr) (n0 : Nat) (c0 : Nat) (xs0 : List AtomD) (ua0 : Option Addr) (un0 : Nat) (uc0 : Nat) (us0 : List Int) (x1 : Int) (w : World) (hD0 : QueryA false (0) w.heap.size w nv0 a0 n0 c0 xs0 ua0 un0 uc0 us0) (hx1 : I64 x1) :
    Calls Try.prog 5 #[queryV nv0 a0 n0 c0 ua0 un0 uc0, .int .i64 x1] w (Leaves w (.bool true)) := by
  have DA0 := hid hD0; clear hD0
  have HX1 := hid hx1; clear hx1
  go_enter Try.func5, Try.ntmps5
  go_wp2_with fail
  refine (szK_Query nv0 a0 n0 c0 xs0 ua0 un0 uc0 us0 1048576 _ (beQuery (B := w.heap.size) DA0.out (by repeat (first | assumption | exact Below.refl _ _ | refine below_drewN ?_ _ | refine Below.al ?_ (by first | exact Nat.le_refl _ | omega | (simp; done) | (simp; omega)) _ | refine Below.setCell ?_ (by first | exact Nat.le_refl _ | omega | (simp; done) | (simp; omega)) _)) (by first | exact Nat.le_refl _ | omega | (simp; done) | (simp; omega))) (by first | exact Nat.le_refl _ | omega | (simp; done) | (simp; omega)) (by omega) (by omega)).mono ?_
  rintro e u1 ⟨rfl, hb⟩
  have hc : Below w.heap.size w u1 := Below.trans (by repeat (first | assumption | exact Below.refl _ _ | refine below_drewN ?_ _ | refine Below.al ?_ (by first | exact Nat.le_refl _ | omega | (simp; done) | (simp; omega)) _ | refine Below.setCell ?_ (by first | exact Nat.le_refl _ | omega | (simp; done) | (simp; omega)) _)) (hb.mono (by first | exact Nat.le_refl _ | omega | (simp; done) | (simp; omega)))
  have z1 : w.heap.size ≤ u1.heap.size := hc.size
  have B0c0 : u1.cell? ⟨w.heap.size, 0, none⟩ = some (.int .i64 nv0) := (by rw [(bcell hb).1 _ _ (by first | (simp; done) | (simp; omega))]; first | (go_simp; done) | (simp [World.cell?]; done))
  have B0c1 : u1.cell? ⟨w.heap.size, 1, none⟩ = some (.slice a0 n0 c0) := (by rw [(bcell hb).1 _ _ (by first | (simp; done) | (simp; omega))]; first | (go_simp; done) | (simp [World.cell?]; done))
  have B0c2 : u1.cell? ⟨w.heap.size, 2, none⟩ = some (.slice ua0 un0 uc0) := (by rw [(bcell hb).1 _ _ (by first | (simp; done) | (simp; omega))]; first | (go_simp; done) | (simp [World.cell?]; done))
  have B0p : w.heap.size < u1.heap.size := World.block_lt_of_cell? _ _ B0c0
  have B0s : w.heap.size < u1.heap.size := B0p
  replace DA0 : Hid (QueryA false (0) w.heap.size u1 nv0 a0 n0 c0 xs0 ua0 un0 uc0 us0) := hid (beQuery DA0.out hc (by omega))
  have HW := hid hc
  clear hb hc
  by_cases hsz0 : (szQuery xs0 us0 : Int) ≤ 1048576
  · rw [szI_yes hsz0]
    obtain ⟨left0, hleft0⟩ : ∃ l, l = 1048576 - (szQuery xs0 us0 : Int) := ⟨_, rfl⟩
    rw [← hleft0]
    have hlo0 : 0 ≤ left0 := by omega
    have hhi0 : left0 ≤ 1048576 := by omega
    have HS0 : Hid (szQuery xs0 us0 ≤ 1048576) := hid (by omega)
    have HQ0 := hid (And.intro hsz0 hleft0); clear hsz0 hleft0
    go_wp2_with fail
    refine (toK_Query nv0 a0 n0 c0 xs0 ua0 un0 uc0 us0 _ (beQuery (B := u1.heap.size) DA0.out (by repeat (first | assumption | exact Below.refl _ _ | refine below_drewN ?_ _ | refine Below.al ?_ (by first | exact Nat.le_refl _ | omega | (simp; done) | (simp; omega)) _ | refine Below.setCell ?_ (by first | exact Nat.le_refl _ | omega | (simp; done) | (simp; omega)) _)) (by first | exact Nat.le_refl _ | omega | (simp; done) | (simp; omega))) (by first | exact Nat.le_refl _ | omega | (simp; done) | (simp; omega)) HS0.out).mono ?_
    rintro e u2 ⟨ap0, np0, cp0, uap0, unp0, ucp0, rfl, ho, hb⟩
    have hc : Below u1.heap.size u1 u2 := Below.trans (by repeat (first | assumption | exact Below.refl _ _ | refine below_drewN ?_ _ | refine Below.al ?_ (by first | exact Nat.le_refl _ | omega | (simp; done) | (simp; omega)) _ | refine Below.setCell ?_ (by first | exact Nat.le_refl _ | omega | (simp; done) | (simp; omega)) _)) (hb.mono (by first | exact Nat.le_refl _ | omega | (simp; done) | (simp; omega)))
    have z2 : u1.heap.size ≤ u2.heap.size := hc.size
    replace B0c0 : u2.cell? ⟨w.heap.size, 0, none⟩ = some (.int .i64 nv0) := (by rw [(bcell hc).1 _ _ B0s]; exact B0c0)
    replace B0c1 : u2.cell? ⟨w.heap.size, 1, none⟩ = some (.slice a0 n0 c0) := (by rw [(bcell hc).1 _ _ B0s]; exact B0c1)
    replace B0c2 : u2.cell? ⟨w.heap.size, 2, none⟩ = some (.slice ua0 un0 uc0) := (by rw [(bcell hc).1 _ _ B0s]; exact B0c2)
    replace B0s : w.heap.size < u2.heap.size := (by omega)
    replace DA0 : Hid (QueryA false (0) w.heap.size u2 nv0 a0 n0 c0 xs0 ua0 un0 uc0 us0) := hid (beQuery DA0.out hc (by omega))
    replace HW : Hid (Below w.heap.size w u2) := hid (Below.calm HW.out hc)
    have Dp0 : Hid (QueryA true (u1.heap.size) u2.heap.size u2 nv0 ap0 np0 cp0 xs0 uap0 unp0 ucp0 us0) := hid (wdQuery ho (by first | exact Nat.le_refl _ | omega | (simp; done) | (simp; omega)))
    clear ho hb hc
    obtain ⟨r0, hr0⟩ : ∃ r : Nat, degF nv0 xs0 us0 x1 = r := ⟨_, rfl⟩
    have hne0 : ((r0 : Int) != r0) = false := by simp
    have HR0 := hid hr0; clear hr0
    go_wp2_with fail
    refine (specDeg nv0 ap0 np0 cp0 xs0 uap0 unp0 ucp0 us0 x1 _ (beQuery (B := u2.heap.size) Dp0.out (by repeat (first | assumption | exact Below.refl _ _ | refine below_drewN ?_ _ | refine Below.al ?_ (by first | exact Nat.le_refl _ | omega | (simp; done) | (simp; omega)) _ | refine Below.setCell ?_ (by first | exact Nat.le_refl _ | omega | (simp; done) | (simp; omega)) _)) (by first | exact Nat.le_refl _ | omega | (simp; done) | (simp; omega))) (by first | exact Nat.le_refl _ | omega | (simp; done) | (simp; omega))).mono ?_
    rintro e u3 ⟨rfl, hb⟩
    rw [HR0.out]
    have hc : Below u2.heap.size u2 u3 := Below.trans (by repeat (first | assumption | exact Below.refl _ _ | refine below_drewN ?_ _ | refine Below.al ?_ (by first | exact Nat.le_refl _ | omega | (simp; done) | (simp; omega)) _ | refine Below.setCell ?_ (by first | exact Nat.le_refl _ | omega | (simp; done) | (simp; omega)) _)) (hb.mono (by first | exact Nat.le_refl _ | omega | (simp; done) | (simp; omega)))
    have z3 : u2.heap.size ≤ u3.heap.size := hc.size
    replace B0c0 : u3.cell? ⟨w.heap.size, 0, none⟩ = some (.int .i64 nv0) := (by rw [(bcell hc).1 _ _ B0s]; exact B0c0)
    replace B0c1 : u3.cell? ⟨w.heap.size, 1, none⟩ = some (.slice a0 n0 c0) := (by rw [(bcell hc).1 _ _ B0s]; exact B0c1)
    replace B0c2 : u3.cell? ⟨w.heap.size, 2, none⟩ = some (.slice ua0 un0 uc0) := (by rw [(bcell hc).1 _ _ B0s]; exact B0c2)
    replace B0s : w.heap.size < u3.heap.size := (by omega)
    replace DA0 : Hid (QueryA false (0) w.heap.size u3 nv0 a0 n0 c0 xs0 ua0 un0 uc0 us0) := hid (beQuery DA0.out hc (by omega))
    replace Dp0 : Hid (QueryA true (u1.heap.size) u2.heap.size u3 nv0 ap0 np0 cp0 xs0 uap0 unp0 ucp0 us0) := hid (beQuery Dp0.out hc (by omega))
    replace HW : Hid (Below w.heap.size w u3) := hid (Below.calm HW.out hc)
    clear hb hc
    go_wp2_with fail
    refine (toK_Query nv0 a0 n0 c0 xs0 ua0 un0 uc0 us0 _ (beQuery (B := u3.heap.size) DA0.out (by repeat (first | assumption | exact Below.refl _ _ | refine below_drewN ?_ _ | refine Below.al ?_ (by first | exact Nat.le_refl _ | omega | (simp; done) | (simp; omega)) _ | refine Below.setCell ?_ (by first | exact Nat.le_refl _ | omega | (simp; done) | (simp; omega)) _)) (by first | exact Nat.le_refl _ | omega | (simp; done) | (simp; omega))) (by first | exact Nat.le_refl _ | omega | (simp; done) | (simp; omega)) HS0.out).mono ?_
    rintro e u4 ⟨ax0, nx0, cx0, uax0, unx0, ucx0, rfl, ho, hb⟩
    have hc : Below u3.heap.size u3 u4 := Below.trans (by repeat (first | assumption | exact Below.refl _ _ | refine below_drewN ?_ _ | refine Below.al ?_ (by first | exact Nat.le_refl _ | omega | (simp; done) | (simp; omega)) _ | refine Below.setCell ?_ (by first | exact Nat.le_refl _ | omega | (simp; done) | (simp; omega)) _)) (hb.mono (by first | exact Nat.le_refl _ | omega | (simp; done) | (simp; omega)))
    have z4 : u3.heap.size ≤ u4.heap.size := hc.size
    replace B0c0 : u4.cell? ⟨w.heap.size, 0, none⟩ = some (.int .i64 nv0) := (by rw [(bcell hc).1 _ _ B0s]; exact B0c0)
    replace B0c1 : u4.cell? ⟨w.heap.size, 1, none⟩ = some (.slice a0 n0 c0) := (by rw [(bcell hc).1 _ _ B0s]; exact B0c1)
    replace B0c2 : u4.cell? ⟨w.heap.size, 2, none⟩ = some (.slice ua0 un0 uc0) := (by rw [(bcell hc).1 _ _ B0s]; exact B0c2)
    replace B0s : w.heap.size < u4.heap.size := (by omega)
    replace DA0 : Hid (QueryA false (0) w.heap.size u4 nv0 a0 n0 c0 xs0 ua0 un0 uc0 us0) := hid (beQuery DA0.out hc (by omega))
    replace HW : Hid (Below w.heap.size w u4) := hid (Below.calm HW.out hc)
    have Dx0 : Hid (QueryA true (u3.heap.size) u4.heap.size u4 nv0 ax0 nx0 cx0 xs0 uax0 unx0 ucx0 us0) := hid (wdQuery ho (by first | exact Nat.le_refl _ | omega | (simp; done) | (simp; omega)))
    clear ho hb hc
    go_wp2_with fail
    refine (implDeg nv0 ax0 nx0 cx0 xs0 uax0 unx0 ucx0 us0 x1 _ (beQuery (B := u4.heap.size) Dx0.out (by repeat (first | assumption | exact Below.refl _ _ | refine below_drewN ?_ _ | refine Below.al ?_ (by first | exact Nat.le_refl _ | omega | (simp; done) | (simp; omega)) _ | refine Below.setCell ?_ (by first | exact Nat.le_refl _ | omega | (simp; done) | (simp; omega)) _)) (by first | exact Nat.le_refl _ | omega | (simp; done) | (simp; omega))) (by first | exact Nat.le_refl _ | omega | (simp; done) | (simp; omega))).mono ?_
    rintro e u5 ⟨rfl, hb⟩
    rw [HR0.out]
    have hc : Below u4.heap.size u4 u5 := Below.trans (by repeat (first | assumption | exact Below.refl _ _ | refine below_drewN ?_ _ | refine Below.al ?_ (by first | exact Nat.le_refl _ | omega | (simp; done) | (simp; omega)) _ | refine Below.setCell ?_ (by first | exact Nat.le_refl _ | omega | (simp; done) | (simp; omega)) _)) (hb.mono (by first | exact Nat.le_refl _ | omega | (simp; done) | (simp; omega)))
    have z5 : u4.heap.size ≤ u5.heap.size := hc.size
    replace B0c0 : u5.cell? ⟨w.heap.size, 0, none⟩ = some (.int .i64 nv0) := (by rw [(bcell hc).1 _ _ B0s]; exact B0c0)
    replace B0c1 : u5.cell? ⟨w.heap.size, 1, none⟩ = some (.slice a0 n0 c0) := (by rw [(bcell hc).1 _ _ B0s]; exact B0c1)
    replace B0c2 : u5.cell? ⟨w.heap.size, 2, none⟩ = some (.slice ua0 un0 uc0) := (by rw [(bcell hc).1 _ _ B0s]; exact B0c2)
    replace B0s : w.heap.size < u5.heap.size := (by omega)
    have B1c0 : u5.cell? ⟨u4.heap.size, 0, none⟩ = some (.int .i64 nv0) := (by rw [(bcell hb).1 _ _ (by first | (simp; done) | (simp; omega))]; first | (go_simp; done) | (simp [World.cell?]; done))
    have B1c1 : u5.cell? ⟨u4.heap.size, 1, none⟩ = some (.slice ax0 nx0 cx0) := (by rw [(bcell hb).1 _ _ (by first | (simp; done) | (simp; omega))]; first | (go_simp; done) | (simp [World.cell?]; done))
    have B1c2 : u5.cell? ⟨u4.heap.size, 2, none⟩ = some (.slice uax0 unx0 ucx0) := (by rw [(bcell hb).1 _ _ (by first | (simp; done) | (simp; omega))]; first | (go_simp; done) | (simp [World.cell?]; done))
    have B1p : u4.heap.size < u5.heap.size := World.block_lt_of_cell? _ _ B1c0
    have B1s : u4.heap.size < u5.heap.size := B1p
    replace DA0 : Hid (QueryA false (0) w.heap.size u5 nv0 a0 n0 c0 xs0 ua0 un0 uc0 us0) := hid (beQuery DA0.out hc (by omega))
    replace Dx0 : Hid (QueryA true (u3.heap.size) u4.heap.size u5 nv0 ax0 nx0 cx0 xs0 uax0 unx0 ucx0 us0) := hid (beQuery Dx0.out hc (by omega))
    replace HW : Hid (Below w.heap.size w u5) := hid (Below.calm HW.out hc)
    clear hb hc
    go_wp2_with fail
    go_region_held3 (fun w' => w'.cell? ⟨w.heap.size, 0, none⟩ = some (.int .i64 nv0) ∧ w'.cell? ⟨w.heap.size, 1, none⟩ = some (.slice a0 n0 c0) ∧ w'.cell? ⟨w.heap.size, 2, none⟩ = some (.slice ua0 un0 uc0) ∧ w'.cell? ⟨u4.heap.size, 0, none⟩ = some (.int .i64 nv0) ∧ w'.cell? ⟨u4.heap.size, 1, none⟩ = some (.slice ax0 nx0 cx0) ∧ w'.cell? ⟨u4.heap.size, 2, none⟩ = some (.slice uax0 unx0 ucx0)) (refine ⟨?_, ?_, ?_, ?_, ?_, ?_⟩ <;> assumption)
      (first | (go_at_call 21; refine (toK_Query nv0 a0 n0 c0 xs0 ua0 un0 uc0 us0 _ (beQuery (B := u5.heap.size) DA0.out (by repeat (first | assumption | exact Below.refl _ _ | refine below_drewN ?_ _ | refine Below.al ?_ (by first | exact Nat.le_refl _ | omega | (simp; done) | (simp; omega)) _ | refine Below.setCell ?_ (by first | exact Nat.le_refl _ | omega | (simp; done) | (simp; omega)) _)) (by first | exact Nat.le_refl _ | omega | (simp; done) | (simp; omega))) (by first | exact Nat.le_refl _ | omega | (simp; done) | (simp; omega)) HS0.out).mono ?_; rintro e u6 ⟨ay0, ny0, cy0, uay0, uny0, ucy0, rfl, ho, hb⟩; have hc : Below u5.heap.size u5 u6 := Below.trans (by repeat (first | assumption | exact Below.refl _ _ | refine below_drewN ?_ _ | refine Below.al ?_ (by first | exact Nat.le_refl _ | omega | (simp; done) | (simp; omega)) _ | refine Below.setCell ?_ (by first | exact Nat.le_refl _ | omega | (simp; done) | (simp; omega)) _)) (hb.mono (by first | exact Nat.le_refl _ | omega | (simp; done) | (simp; omega))); have z6 : u5.heap.size ≤ u6.heap.size := hc.size; replace B0c0 : u6.cell? ⟨w.heap.size, 0, none⟩ = some (.int .i64 nv0) := (by rw [(bcell hc).1 _ _ B0s]; exact B0c0); replace B0c1 : u6.cell? ⟨w.heap.size, 1, none⟩ = some (.slice a0 n0 c0) := (by rw [(bcell hc).1 _ _ B0s]; exact B0c1); replace B0c2 : u6.cell? ⟨w.heap.size, 2, none⟩ = some (.slice ua0 un0 uc0) := (by rw [(bcell hc).1 _ _ B0s]; exact B0c2); replace B0s : w.heap.size < u6.heap.size := (by omega); replace B1c0 : u6.cell? ⟨u4.heap.size, 0, none⟩ = some (.int .i64 nv0) := (by rw [(bcell hc).1 _ _ B1s]; exact B1c0); replace B1c1 : u6.cell? ⟨u4.heap.size, 1, none⟩ = some (.slice ax0 nx0 cx0) := (by rw [(bcell hc).1 _ _ B1s]; exact B1c1); replace B1c2 : u6.cell? ⟨u4.heap.size, 2, none⟩ = some (.slice uax0 unx0 ucx0) := (by rw [(bcell hc).1 _ _ B1s]; exact B1c2); replace B1s : u4.heap.size < u6.heap.size := (by omega); replace DA0 : Hid (QueryA false (0) w.heap.size u6 nv0 a0 n0 c0 xs0 ua0 un0 uc0 us0) := hid (beQuery DA0.out hc (by omega)); replace Dx0 : Hid (QueryA true (u3.heap.size) u4.heap.size u6 nv0 ax0 nx0 cx0 xs0 uax0 unx0 ucx0 us0) := hid (beQuery Dx0.out hc (by omega)); replace HW : Hid (Below w.heap.size w u6) := hid (Below.calm HW.out hc); have Dy0 : Hid (QueryA true (u5.heap.size) u6.heap.size u6 nv0 ay0 ny0 cy0 xs0 uay0 uny0 ucy0 us0) := hid (wdQuery ho (by first | exact Nat.le_refl _ | omega | (simp; done) | (simp; omega))); clear ho hb hc) | (go_at_call 23; refine (eqK_Query nv0 ax0 nx0 cx0 xs0 uax0 unx0 ucx0 us0 ay0 ny0 cy0 uay0 uny0 ucy0 _ (beQuery (B := u6.heap.size) Dx0.out (by repeat (first | assumption | exact Below.refl _ _ | refine below_drewN ?_ _ | refine Below.al ?_ (by first | exact Nat.le_refl _ | omega | (simp; done) | (simp; omega)) _ | refine Below.setCell ?_ (by first | exact Nat.le_refl _ | omega | (simp; done) | (simp; omega)) _)) (by first | exact Nat.le_refl _ | omega | (simp; done) | (simp; omega))) (by first | exact Nat.le_refl _ | omega | (simp; done) | (simp; omega)) (beQuery (B := u6.heap.size) Dy0.out (by repeat (first | assumption | exact Below.refl _ _ | refine below_drewN ?_ _ | refine Below.al ?_ (by first | exact Nat.le_refl _ | omega | (simp; done) | (simp; omega)) _ | refine Below.setCell ?_ (by first | exact Nat.le_refl _ | omega | (simp; done) | (simp; omega)) _)) (by first | exact Nat.le_refl _ | omega | (simp; done) | (simp; omega))) (by first | exact Nat.le_refl _ | omega | (simp; done) | (simp; omega))).mono ?_; rintro e u7 ⟨rfl, hb⟩; have hc : Below u6.heap.size u6 u7 := Below.trans (by repeat (first | assumption | exact Below.refl _ _ | refine below_drewN ?_ _ | refine Below.al ?_ (by first | exact Nat.le_refl _ | omega | (simp; done) | (simp; omega)) _ | refine Below.setCell ?_ (by first | exact Nat.le_refl _ | omega | (simp; done) | (simp; omega)) _)) (hb.mono (by first | exact Nat.le_refl _ | omega | (simp; done) | (simp; omega))); have z7 : u6.heap.size ≤ u7.heap.size := hc.size; replace B0c0 : u7.cell? ⟨w.heap.size, 0, none⟩ = some (.int .i64 nv0) := (by rw [(bcell hc).1 _ _ B0s]; exact B0c0); replace B0c1 : u7.cell? ⟨w.heap.size, 1, none⟩ = some (.slice a0 n0 c0) := (by rw [(bcell hc).1 _ _ B0s]; exact B0c1); replace B0c2 : u7.cell? ⟨w.heap.size, 2, none⟩ = some (.slice ua0 un0 uc0) := (by rw [(bcell hc).1 _ _ B0s]; exact B0c2); replace B0s : w.heap.size < u7.heap.size := (by omega); replace B1c0 : u7.cell? ⟨u4.heap.size, 0, none⟩ = some (.int .i64 nv0) := (by rw [(bcell hc).1 _ _ B1s]; exact B1c0); replace B1c1 : u7.cell? ⟨u4.heap.size, 1, none⟩ = some (.slice ax0 nx0 cx0) := (by rw [(bcell hc).1 _ _ B1s]; exact B1c1); replace B1c2 : u7.cell? ⟨u4.heap.size, 2, none⟩ = some (.slice uax0 unx0 ucx0) := (by rw [(bcell hc).1 _ _ B1s]; exact B1c2); replace B1s : u4.heap.size < u7.heap.size := (by omega); replace DA0 : Hid (QueryA false (0) w.heap.size u7 nv0 a0 n0 c0 xs0 ua0 un0 uc0 us0) := hid (beQuery DA0.out hc (by omega)); replace Dx0 : Hid (QueryA true (u3.heap.size) u4.heap.size u7 nv0 ax0 nx0 cx0 xs0 uax0 unx0 ucx0 us0) := hid (beQuery Dx0.out hc (by omega)); replace HW : Hid (Below w.heap.size w u7) := hid (Below.calm HW.out hc); clear hb hc))
    go_wp2_with fail
    go_ret
    exact ⟨rfl, HW.out⟩
  · rw [szI_no hsz0]
    have HQ0 := hid hsz0; clear hsz0
    go_wp2_with fail
    go_ret
    exact ⟨rfl, HW.out⟩
end Go.Proofs.Ytbjbgfeaiepejaa
