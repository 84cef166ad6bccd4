/- The walk of the law FnExactPrivateVariables: it returns true and changes nothing that was there. Written by lawwalk.py. -/
import Derived.Test.YtbjbgfeaiepejaaAQ2
import Derived.Test.YtbjbgfeaiepejaaB9
namespace Go.Proofs.Ytbjbgfeaiepejaa
open Go.RowKit
set_option maxHeartbeats 4000000 in
theorem law_FnExactPrivateVariables (nv0 : Int) (a0 : Option Addr) (n0 : Nat) (c0 : Nat) (xs0 : List AtomD) (ua0 : Option Addr) (un0 : Nat) (uc0 : Nat) (us0 : List Int) (x1 : Int) (w : World) (hD0 : QueryA false (0) w.heap.size w nv0 a0 n0 c0 xs0 ua0 un0 uc0 us0) (hx1 : I64 x1) :
    Calls Try.prog 8 #[queryV nv0 a0 n0 c0 ua0 un0 uc0, .int .i64 x1] w (Leaves w (.bool true)) := by
  have DA0 := hid hD0; clear hD0
  have HX1 := hid hx1; clear hx1
  go_enter Try.func8, Try.ntmps8
  go_wp2_with fail
  refine (szK_Query nv0 a0 n0 c0 xs0 ua0 un0 uc0 us0 1048576 _ (beQuery (B := w.heap.size) DA0.out (by repeat (first | assumption | exact Below.refl _ _ | refine below_drewN ?_ _ | refine Below.al ?_ (by first | exact Nat.le_refl _ | omega | (simp; done) | (simp; omega)) _ | refine Below.setCell ?_ (by first | exact Nat.le_refl _ | omega | (simp; done) | (simp; omega)) _)) (by first | exact Nat.le_refl _ | omega | (simp; done) | (simp; omega))) (by first | exact Nat.le_refl _ | omega | (simp; done) | (simp; omega)) (by omega) (by omega)).mono ?_
  rintro e u1 ⟨rfl, hb⟩
  have hc : Below w.heap.size w u1 := Below.trans (by repeat (first | assumption | exact Below.refl _ _ | refine below_drewN ?_ _ | refine Below.al ?_ (by first | exact Nat.le_refl _ | omega | (simp; done) | (simp; omega)) _ | refine Below.setCell ?_ (by first | exact Nat.le_refl _ | omega | (simp; done) | (simp; omega)) _)) (hb.mono (by first | exact Nat.le_refl _ | omega | (simp; done) | (simp; omega)))
  have z1 : w.heap.size ≤ u1.heap.size := hc.size
  have B0c0 : u1.cell? ⟨w.heap.size, 0, none⟩ = some (.int .i64 nv0) := (by rw [(bcell hb).1 _ _ (by first | (simp; done) | (simp; omega))]; first | (go_simp; done) | (simp [World.cell?]; done))
  have B0c1 : u1.cell? ⟨w.heap.size, 1, none⟩ = some (.slice a0 n0 c0) := (by rw [(bcell hb).1 _ _ (by first | (simp; done) | (simp; omega))]; first | (go_simp; done) | (simp [World.cell?]; done))
  have B0c2 : u1.cell? ⟨w.heap.size, 2, none⟩ = some (.slice ua0 un0 uc0) := (by rw [(bcell hb).1 _ _ (by first | (simp; done) | (simp; omega))]; first | (go_simp; done) | (simp [World.cell?]; done))
  have B0p : w.heap.size < u1.heap.size := World.block_lt_of_cell? _ _ B0c0
  have B0s : w.heap.size < u1.heap.size := B0p
  replace DA0 : Hid (QueryA false (0) w.heap.size u1 nv0 a0 n0 c0 xs0 ua0 un0 uc0 us0) := hid (beQuery DA0.out hc (by omega))
  have HW := hid hc
  clear hb hc
  by_cases hsz0 : (szQuery xs0 us0 : Int) ≤ 1048576
  · rw [szI_yes hsz0]
    obtain ⟨left0, hleft0⟩ : ∃ l, l = 1048576 - (szQuery xs0 us0 : Int) := ⟨_, rfl⟩
    rw [← hleft0]
    have hlo0 : 0 ≤ left0 := by omega
    have hhi0 : left0 ≤ 1048576 := by omega
    have HS0 : Hid (szQuery xs0 us0 ≤ 1048576) := hid (by omega)
    have HQ0 := hid (And.intro hsz0 hleft0); clear hsz0 hleft0
    go_wp2_with fail
    refine (toK_Query nv0 a0 n0 c0 xs0 ua0 un0 uc0 us0 _ (beQuery (B := u1.heap.size) DA0.out (by repeat (first | assumption | exact Below.refl _ _ | refine below_drewN ?_ _ | refine Below.al ?_ (by first | exact Nat.le_refl _ | omega | (simp; done) | (simp; omega)) _ | refine Below.setCell ?_ (by first | exact Nat.le_refl _ | omega | (simp; done) | (simp; omega)) _)) (by first | exact Nat.le_refl _ | omega | (simp; done) | (simp; omega))) (by first | exact Nat.le_refl _ | omega | (simp; done) | (simp; omega)) HS0.out).mono ?_
    rintro e u2 ⟨ap0, np0, cp0, uap0, unp0, ucp0, rfl, ho, hb⟩
    have hc : Below u1.heap.size u1 u2 := Below.trans (by repeat (first | assumption | exact Below.refl _ _ | refine below_drewN ?_ _ | refine Below.al ?_ (by first | exact Nat.le_refl _ | omega | (simp; done) | (simp; omega)) _ | refine Below.setCell ?_ (by first | exact Nat.le_refl _ | omega | (simp; done) | (simp; omega)) _)) (hb.mono (by first | exact Nat.le_refl _ | omega | (simp; done) | (simp; omega)))
    have z2 : u1.heap.size ≤ u2.heap.size := hc.size
    replace B0c0 : u2.cell? ⟨w.heap.size, 0, none⟩ = some (.int .i64 nv0) := (by rw [(bcell hc).1 _ _ B0s]; exact B0c0)
    replace B0c1 : u2.cell? ⟨w.heap.size, 1, none⟩ = some (.slice a0 n0 c0) := (by rw [(bcell hc).1 _ _ B0s]; exact B0c1)
    replace B0c2 : u2.cell? ⟨w.heap.size, 2, none⟩ = some (.slice ua0 un0 uc0) := (by rw [(bcell hc).1 _ _ B0s]; exact B0c2)
    replace B0s : w.heap.size < u2.heap.size := (by omega)
    replace DA0 : Hid (QueryA false (0) w.heap.size u2 nv0 a0 n0 c0 xs0 ua0 un0 uc0 us0) := hid (beQuery DA0.out hc (by omega))
    replace HW : Hid (Below w.heap.size w u2) := hid (Below.calm HW.out hc)
    have Dp0 : Hid (QueryA true (u1.heap.size) u2.heap.size u2 nv0 ap0 np0 cp0 xs0 uap0 unp0 ucp0 us0) := hid (wdQuery ho (by first | exact Nat.le_refl _ | omega | (simp; done) | (simp; omega)))
    clear ho hb hc
    go_wp2_with fail
    refine ((specPriv nv0 ap0 np0 cp0 xs0 uap0 unp0 ucp0 us0 x1 _ (beQuery (B := u2.heap.size) Dp0.out (by repeat (first | assumption | exact Below.refl _ _ | refine below_drewN ?_ _ | refine Below.al ?_ (by first | exact Nat.le_refl _ | omega | (simp; done) | (simp; omega)) _ | refine Below.setCell ?_ (by first | exact Nat.le_refl _ | omega | (simp; done) | (simp; omega)) _)) (by first | exact Nat.le_refl _ | omega | (simp; done) | (simp; omega))) (by first | exact Nat.le_refl _ | omega | (simp; done) | (simp; omega))).mono fun _ _ h => h.gv).mono ?_
    rintro e u3 ⟨aW, nW, cW, rfl, ho, hb⟩
    have hc : Below u2.heap.size u2 u3 := Below.trans (by repeat (first | assumption | exact Below.refl _ _ | refine below_drewN ?_ _ | refine Below.al ?_ (by first | exact Nat.le_refl _ | omega | (simp; done) | (simp; omega)) _ | refine Below.setCell ?_ (by first | exact Nat.le_refl _ | omega | (simp; done) | (simp; omega)) _)) (hb.mono (by first | exact Nat.le_refl _ | omega | (simp; done) | (simp; omega)))
    have z3 : u2.heap.size ≤ u3.heap.size := hc.size
    replace B0c0 : u3.cell? ⟨w.heap.size, 0, none⟩ = some (.int .i64 nv0) := (by rw [(bcell hc).1 _ _ B0s]; exact B0c0)
    replace B0c1 : u3.cell? ⟨w.heap.size, 1, none⟩ = some (.slice a0 n0 c0) := (by rw [(bcell hc).1 _ _ B0s]; exact B0c1)
    replace B0c2 : u3.cell? ⟨w.heap.size, 2, none⟩ = some (.slice ua0 un0 uc0) := (by rw [(bcell hc).1 _ _ B0s]; exact B0c2)
    replace B0s : w.heap.size < u3.heap.size := (by omega)
    replace DA0 : Hid (QueryA false (0) w.heap.size u3 nv0 a0 n0 c0 xs0 ua0 un0 uc0 us0) := hid (beQuery DA0.out hc (by omega))
    replace Dp0 : Hid (QueryA true (u1.heap.size) u2.heap.size u3 nv0 ap0 np0 cp0 xs0 uap0 unp0 ucp0 us0) := hid (beQuery Dp0.out hc (by omega))
    replace HW : Hid (Below w.heap.size w u3) := hid (Below.calm HW.out hc)
    have DW : Hid (IntsA true (u2.heap.size) u3.heap.size u3 aW nW cW (pvF nv0 xs0 us0 x1)) := hid (wdInts ho (by first | exact Nat.le_refl _ | omega | (simp; done) | (simp; omega)))
    clear ho hb hc
    go_wp2_with fail
    refine (toK_Query nv0 a0 n0 c0 xs0 ua0 un0 uc0 us0 _ (beQuery (B := u3.heap.size) DA0.out (by repeat (first | assumption | exact Below.refl _ _ | refine below_drewN ?_ _ | refine Below.al ?_ (by first | exact Nat.le_refl _ | omega | (simp; done) | (simp; omega)) _ | refine Below.setCell ?_ (by first | exact Nat.le_refl _ | omega | (simp; done) | (simp; omega)) _)) (by first | exact Nat.le_refl _ | omega | (simp; done) | (simp; omega))) (by first | exact Nat.le_refl _ | omega | (simp; done) | (simp; omega)) HS0.out).mono ?_
    rintro e u4 ⟨ax0, nx0, cx0, uax0, unx0, ucx0, rfl, ho, hb⟩
    have hc : Below u3.heap.size u3 u4 := Below.trans (by repeat (first | assumption | exact Below.refl _ _ | refine below_drewN ?_ _ | refine Below.al ?_ (by first | exact Nat.le_refl _ | omega | (simp; done) | (simp; omega)) _ | refine Below.setCell ?_ (by first | exact Nat.le_refl _ | omega | (simp; done) | (simp; omega)) _)) (hb.mono (by first | exact Nat.le_refl _ | omega | (simp; done) | (simp; omega)))
    have z4 : u3.heap.size ≤ u4.heap.size := hc.size
    replace B0c0 : u4.cell? ⟨w.heap.size, 0, none⟩ = some (.int .i64 nv0) := (by rw [(bcell hc).1 _ _ B0s]; exact B0c0)
    replace B0c1 : u4.cell? ⟨w.heap.size, 1, none⟩ = some (.slice a0 n0 c0) := (by rw [(bcell hc).1 _ _ B0s]; exact B0c1)
    replace B0c2 : u4.cell? ⟨w.heap.size, 2, none⟩ = some (.slice ua0 un0 uc0) := (by rw [(bcell hc).1 _ _ B0s]; exact B0c2)
    replace B0s : w.heap.size < u4.heap.size := (by omega)
    replace DA0 : Hid (QueryA false (0) w.heap.size u4 nv0 a0 n0 c0 xs0 ua0 un0 uc0 us0) := hid (beQuery DA0.out hc (by omega))
    replace DW : Hid (IntsA true (u2.heap.size) u3.heap.size u4 aW nW cW (pvF nv0 xs0 us0 x1)) := hid (beInts DW.out hc (by omega))
    replace HW : Hid (Below w.heap.size w u4) := hid (Below.calm HW.out hc)
    have Dx0 : Hid (QueryA true (u3.heap.size) u4.heap.size u4 nv0 ax0 nx0 cx0 xs0 uax0 unx0 ucx0 us0) := hid (wdQuery ho (by first | exact Nat.le_refl _ | omega | (simp; done) | (simp; omega)))
    clear ho hb hc
    go_wp2_with fail
    refine ((implPriv nv0 ax0 nx0 cx0 xs0 uax0 unx0 ucx0 us0 x1 _ (beQuery (B := u4.heap.size) Dx0.out (by repeat (first | assumption | exact Below.refl _ _ | refine below_drewN ?_ _ | refine Below.al ?_ (by first | exact Nat.le_refl _ | omega | (simp; done) | (simp; omega)) _ | refine Below.setCell ?_ (by first | exact Nat.le_refl _ | omega | (simp; done) | (simp; omega)) _)) (by first | exact Nat.le_refl _ | omega | (simp; done) | (simp; omega))) (by first | exact Nat.le_refl _ | omega | (simp; done) | (simp; omega))).mono fun _ _ h => h.gv).mono ?_
    rintro e u5 ⟨aG, nG, cG, rfl, ho, hb⟩
    have hc : Below u4.heap.size u4 u5 := Below.trans (by repeat (first | assumption | exact Below.refl _ _ | refine below_drewN ?_ _ | refine Below.al ?_ (by first | exact Nat.le_refl _ | omega | (simp; done) | (simp; omega)) _ | refine Below.setCell ?_ (by first | exact Nat.le_refl _ | omega | (simp; done) | (simp; omega)) _)) (hb.mono (by first | exact Nat.le_refl _ | omega | (simp; done) | (simp; omega)))
    have z5 : u4.heap.size ≤ u5.heap.size := hc.size
    replace B0c0 : u5.cell? ⟨w.heap.size, 0, none⟩ = some (.int .i64 nv0) := (by rw [(bcell hc).1 _ _ B0s]; exact B0c0)
    replace B0c1 : u5.cell? ⟨w.heap.size, 1, none⟩ = some (.slice a0 n0 c0) := (by rw [(bcell hc).1 _ _ B0s]; exact B0c1)
    replace B0c2 : u5.cell? ⟨w.heap.size, 2, none⟩ = some (.slice ua0 un0 uc0) := (by rw [(bcell hc).1 _ _ B0s]; exact B0c2)
    replace B0s : w.heap.size < u5.heap.size := (by omega)
    have B1c0 : u5.cell? ⟨u4.heap.size, 0, none⟩ = some (.int .i64 nv0) := (by rw [(bcell hb).1 _ _ (by first | (simp; done) | (simp; omega))]; first | (go_simp; done) | (simp [World.cell?]; done))
    have B1c1 : u5.cell? ⟨u4.heap.size, 1, none⟩ = some (.slice ax0 nx0 cx0) := (by rw [(bcell hb).1 _ _ (by first | (simp; done) | (simp; omega))]; first | (go_simp; done) | (simp [World.cell?]; done))
    have B1c2 : u5.cell? ⟨u4.heap.size, 2, none⟩ = some (.slice uax0 unx0 ucx0) := (by rw [(bcell hb).1 _ _ (by first | (simp; done) | (simp; omega))]; first | (go_simp; done) | (simp [World.cell?]; done))
    have B1p : u4.heap.size < u5.heap.size := World.block_lt_of_cell? _ _ B1c0
    have B1s : u4.heap.size < u5.heap.size := B1p
    replace DA0 : Hid (QueryA false (0) w.heap.size u5 nv0 a0 n0 c0 xs0 ua0 un0 uc0 us0) := hid (beQuery DA0.out hc (by omega))
    replace DW : Hid (IntsA true (u2.heap.size) u3.heap.size u5 aW nW cW (pvF nv0 xs0 us0 x1)) := hid (beInts DW.out hc (by omega))
    replace Dx0 : Hid (QueryA true (u3.heap.size) u4.heap.size u5 nv0 ax0 nx0 cx0 xs0 uax0 unx0 ucx0 us0) := hid (beQuery Dx0.out hc (by omega))
    replace HW : Hid (Below w.heap.size w u5) := hid (Below.calm HW.out hc)
    have DG : Hid (IntsA true (u4.heap.size + 1) u5.heap.size u5 aG nG cG (pvF nv0 xs0 us0 x1)) := hid (wdInts ho (by first | exact Nat.le_refl _ | omega | (simp; done) | (simp; omega)))
    clear ho hb hc
    go_wp2_with fail
    refine (eqK_Ints aG aW nG cG nW cW (pvF nv0 xs0 us0 x1) _ (beInts (B := u5.heap.size) DG.out (by repeat (first | assumption | exact Below.refl _ _ | refine below_drewN ?_ _ | refine Below.al ?_ (by first | exact Nat.le_refl _ | omega | (simp; done) | (simp; omega)) _ | refine Below.setCell ?_ (by first | exact Nat.le_refl _ | omega | (simp; done) | (simp; omega)) _)) (by first | exact Nat.le_refl _ | omega | (simp; done) | (simp; omega))) (beInts (B := u5.heap.size) DW.out (by repeat (first | assumption | exact Below.refl _ _ | refine below_drewN ?_ _ | refine Below.al ?_ (by first | exact Nat.le_refl _ | omega | (simp; done) | (simp; omega)) _ | refine Below.setCell ?_ (by first | exact Nat.le_refl _ | omega | (simp; done) | (simp; omega)) _)) (by first | exact Nat.le_refl _ | omega | (simp; done) | (simp; omega)))).mono ?_
    rintro e u6 hg; obtain ⟨rfl, hb⟩ := Gives.leaves hg; clear hg
    have hc : Below u5.heap.size u5 u6 := Below.trans (by repeat (first | assumption | exact Below.refl _ _ | refine below_drewN ?_ _ | refine Below.al ?_ (by first | exact Nat.le_refl _ | omega | (simp; done) | (simp; omega)) _ | refine Below.setCell ?_ (by first | exact Nat.le_refl _ | omega | (simp; done) | (simp; omega)) _)) (hb.mono (by first | exact Nat.le_refl _ | omega | (simp; done) | (simp; omega)))
    have z6 : u5.heap.size ≤ u6.heap.size := hc.size
    replace B0c0 : u6.cell? ⟨w.heap.size, 0, none⟩ = some (.int .i64 nv0) := (by rw [(bcell hc).1 _ _ B0s]; exact B0c0)
    replace B0c1 : u6.cell? ⟨w.heap.size, 1, none⟩ = some (.slice a0 n0 c0) := (by rw [(bcell hc).1 _ _ B0s]; exact B0c1)
    replace B0c2 : u6.cell? ⟨w.heap.size, 2, none⟩ = some (.slice ua0 un0 uc0) := (by rw [(bcell hc).1 _ _ B0s]; exact B0c2)
    replace B0s : w.heap.size < u6.heap.size := (by omega)
    replace B1c0 : u6.cell? ⟨u4.heap.size, 0, none⟩ = some (.int .i64 nv0) := (by rw [(bcell hc).1 _ _ B1s]; exact B1c0)
    replace B1c1 : u6.cell? ⟨u4.heap.size, 1, none⟩ = some (.slice ax0 nx0 cx0) := (by rw [(bcell hc).1 _ _ B1s]; exact B1c1)
    replace B1c2 : u6.cell? ⟨u4.heap.size, 2, none⟩ = some (.slice uax0 unx0 ucx0) := (by rw [(bcell hc).1 _ _ B1s]; exact B1c2)
    replace B1s : u4.heap.size < u6.heap.size := (by omega)
    replace DA0 : Hid (QueryA false (0) w.heap.size u6 nv0 a0 n0 c0 xs0 ua0 un0 uc0 us0) := hid (beQuery DA0.out hc (by omega))
    replace DW : Hid (IntsA true (u2.heap.size) u3.heap.size u6 aW nW cW (pvF nv0 xs0 us0 x1)) := hid (beInts DW.out hc (by omega))
    replace Dx0 : Hid (QueryA true (u3.heap.size) u4.heap.size u6 nv0 ax0 nx0 cx0 xs0 uax0 unx0 ucx0 us0) := hid (beQuery Dx0.out hc (by omega))
    replace DG : Hid (IntsA true (u4.heap.size + 1) u5.heap.size u6 aG nG cG (pvF nv0 xs0 us0 x1)) := hid (beInts DG.out hc (by omega))
    replace HW : Hid (Below w.heap.size w u6) := hid (Below.calm HW.out hc)
    clear hb hc
    go_wp2_with fail
    go_region_held3 (fun w' => w'.cell? ⟨w.heap.size, 0, none⟩ = some (.int .i64 nv0) ∧ w'.cell? ⟨w.heap.size, 1, none⟩ = some (.slice a0 n0 c0) ∧ w'.cell? ⟨w.heap.size, 2, none⟩ = some (.slice ua0 un0 uc0) ∧ w'.cell? ⟨u4.heap.size, 0, none⟩ = some (.int .i64 nv0) ∧ w'.cell? ⟨u4.heap.size, 1, none⟩ = some (.slice ax0 nx0 cx0) ∧ w'.cell? ⟨u4.heap.size, 2, none⟩ = some (.slice uax0 unx0 ucx0)) (refine ⟨?_, ?_, ?_, ?_, ?_, ?_⟩ <;> assumption)
      (first | (go_at_call 21; refine (toK_Query nv0 a0 n0 c0 xs0 ua0 un0 uc0 us0 _ (beQuery (B := u6.heap.size) DA0.out (by repeat (first | assumption | exact Below.refl _ _ | refine below_drewN ?_ _ | refine Below.al ?_ (by first | exact Nat.le_refl _ | omega | (simp; done) | (simp; omega)) _ | refine Below.setCell ?_ (by first | exact Nat.le_refl _ | omega | (simp; done) | (simp; omega)) _)) (by first | exact Nat.le_refl _ | omega | (simp; done) | (simp; omega))) (by first | exact Nat.le_refl _ | omega | (simp; done) | (simp; omega)) HS0.out).mono ?_; rintro e u7 ⟨ay0, ny0, cy0, uay0, uny0, ucy0, rfl, ho, hb⟩; have hc : Below u6.heap.size u6 u7 := Below.trans (by repeat (first | assumption | exact Below.refl _ _ | refine below_drewN ?_ _ | refine Below.al ?_ (by first | exact Nat.le_refl _ | omega | (simp; done) | (simp; omega)) _ | refine Below.setCell ?_ (by first | exact Nat.le_refl _ | omega | (simp; done) | (simp; omega)) _)) (hb.mono (by first | exact Nat.le_refl _ | omega | (simp; done) | (simp; omega))); have z7 : u6.heap.size ≤ u7.heap.size := hc.size; replace B0c0 : u7.cell? ⟨w.heap.size, 0, none⟩ = some (.int .i64 nv0) := (by rw [(bcell hc).1 _ _ B0s]; exact B0c0); replace B0c1 : u7.cell? ⟨w.heap.size, 1, none⟩ = some (.slice a0 n0 c0) := (by rw [(bcell hc).1 _ _ B0s]; exact B0c1); replace B0c2 : u7.cell? ⟨w.heap.size, 2, none⟩ = some (.slice ua0 un0 uc0) := (by rw [(bcell hc).1 _ _ B0s]; exact B0c2); replace B0s : w.heap.size < u7.heap.size := (by omega); replace B1c0 : u7.cell? ⟨u4.heap.size, 0, none⟩ = some (.int .i64 nv0) := (by rw [(bcell hc).1 _ _ B1s]; exact B1c0); replace B1c1 : u7.cell? ⟨u4.heap.size, 1, none⟩ = some (.slice ax0 nx0 cx0) := (by rw [(bcell hc).1 _ _ B1s]; exact B1c1); replace B1c2 : u7.cell? ⟨u4.heap.size, 2, none⟩ = some (.slice uax0 unx0 ucx0) := (by rw [(bcell hc).1 _ _ B1s]; exact B1c2); replace B1s : u4.heap.size < u7.heap.size := (by omega); replace DA0 : Hid (QueryA false (0) w.heap.size u7 nv0 a0 n0 c0 xs0 ua0 un0 uc0 us0) := hid (beQuery DA0.out hc (by omega)); replace DW : Hid (IntsA true (u2.heap.size) u3.heap.size u7 aW nW cW (pvF nv0 xs0 us0 x1)) := hid (beInts DW.out hc (by omega)); replace Dx0 : Hid (QueryA true (u3.heap.size) u4.heap.size u7 nv0 ax0 nx0 cx0 xs0 uax0 unx0 ucx0 us0) := hid (beQuery Dx0.out hc (by omega)); replace DG : Hid (IntsA true (u4.heap.size + 1) u5.heap.size u7 aG nG cG (pvF nv0 xs0 us0 x1)) := hid (beInts DG.out hc (by omega)); replace HW : Hid (Below w.heap.size w u7) := hid (Below.calm HW.out hc); have Dy0 : Hid (QueryA true (u6.heap.size) u7.heap.size u7 nv0 ay0 ny0 cy0 xs0 uay0 uny0 ucy0 us0) := hid (wdQuery ho (by first | exact Nat.le_refl _ | omega | (simp; done) | (simp; omega))); clear ho hb hc) | (go_at_call 23; refine (eqK_Query nv0 ax0 nx0 cx0 xs0 uax0 unx0 ucx0 us0 ay0 ny0 cy0 uay0 uny0 ucy0 _ (beQuery (B := u7.heap.size) Dx0.out (by repeat (first | assumption | exact Below.refl _ _ | refine below_drewN ?_ _ | refine Below.al ?_ (by first | exact Nat.le_refl _ | omega | (simp; done) | (simp; omega)) _ | refine Below.setCell ?_ (by first | exact Nat.le_refl _ | omega | (simp; done) | (simp; omega)) _)) (by first | exact Nat.le_refl _ | omega | (simp; done) | (simp; omega))) (by first | exact Nat.le_refl _ | omega | (simp; done) | (simp; omega)) (beQuery (B := u7.heap.size) Dy0.out (by repeat (first | assumption | exact Below.refl _ _ | refine below_drewN ?_ _ | refine Below.al ?_ (by first | exact Nat.le_refl _ | omega | (simp; done) | (simp; omega)) _ | refine Below.setCell ?_ (by first | exact Nat.le_refl _ | omega | (simp; done) | (simp; omega)) _)) (by first | exact Nat.le_refl _ | omega | (simp; done) | (simp; omega))) (by first | exact Nat.le_refl _ | omega | (simp; done) | (simp; omega))).mono ?_; rintro e u8 ⟨rfl, hb⟩; have hc : Below u7.heap.size u7 u8 := Below.trans (by repeat (first | assumption | exact Below.refl _ _ | refine below_drewN ?_ _ | refine Below.al ?_ (by first | exact Nat.le_refl _ | omega | (simp; done) | (simp; omega)) _ | refine Below.setCell ?_ (by first | exact Nat.le_refl _ | omega | (simp; done) | (simp; omega)) _)) (hb.mono (by first | exact Nat.le_refl _ | omega | (simp; done) | (simp; omega))); have z8 : u7.heap.size ≤ u8.heap.size := hc.size; replace B0c0 : u8.cell? ⟨w.heap.size, 0, none⟩ = some (.int .i64 nv0) := (by rw [(bcell hc).1 _ _ B0s]; exact B0c0); replace B0c1 : u8.cell? ⟨w.heap.size, 1, none⟩ = some (.slice a0 n0 c0) := (by rw [(bcell hc).1 _ _ B0s]; exact B0c1); replace B0c2 : u8.cell? ⟨w.heap.size, 2, none⟩ = some (.slice ua0 un0 uc0) := (by rw [(bcell hc).1 _ _ B0s]; exact B0c2); replace B0s : w.heap.size < u8.heap.size := (by omega); replace B1c0 : u8.cell? ⟨u4.heap.size, 0, none⟩ = some (.int .i64 nv0) := (by rw [(bcell hc).1 _ _ B1s]; exact B1c0); replace B1c1 : u8.cell? ⟨u4.heap.size, 1, none⟩ = some (.slice ax0 nx0 cx0) := (by rw [(bcell hc).1 _ _ B1s]; exact B1c1); replace B1c2 : u8.cell? ⟨u4.heap.size, 2, none⟩ = some (.slice uax0 unx0 ucx0) := (by rw [(bcell hc).1 _ _ B1s]; exact B1c2); replace B1s : u4.heap.size < u8.heap.size := (by omega); replace DA0 : Hid (QueryA false (0) w.heap.size u8 nv0 a0 n0 c0 xs0 ua0 un0 uc0 us0) := hid (beQuery DA0.out hc (by omega)); replace DW : Hid (IntsA true (u2.heap.size) u3.heap.size u8 aW nW cW (pvF nv0 xs0 us0 x1)) := hid (beInts DW.out hc (by omega)); replace Dx0 : Hid (QueryA true (u3.heap.size) u4.heap.size u8 nv0 ax0 nx0 cx0 xs0 uax0 unx0 ucx0 us0) := hid (beQuery Dx0.out hc (by omega)); replace DG : Hid (IntsA true (u4.heap.size + 1) u5.heap.size u8 aG nG cG (pvF nv0 xs0 us0 x1)) := hid (beInts DG.out hc (by omega)); replace HW : Hid (Below w.heap.size w u8) := hid (Below.calm HW.out hc); clear hb hc))
    have hkb : (0 : Int) ≤ 1 ∧ (1 : Int) ≤ 1 := by omega
    have hcl0 : cntQuery xs0 us0 ≤ szQuery xs0 us0 := cntQuery_le _ _
    obtain ⟨k1, hk1⟩ : ∃ k : Int, k = 1 + (cntQuery xs0 us0 : Nat) := ⟨_, rfl⟩
    have hkb1 : 0 ≤ k1 ∧ k1 ≤ 1048577 := by have := HS0.out; omega
    have HK1 := hid hk1; clear hk1 hcl0
    go_wp2_with fail
    refine (markK_Query nv0 ax0 nx0 cx0 xs0 uax0 unx0 ucx0 us0 1 _ (beQuery (B := u8.heap.size) Dx0.out (by repeat (first | assumption | exact Below.refl _ _ | refine below_drewN ?_ _ | refine Below.al ?_ (by first | exact Nat.le_refl _ | omega | (simp; done) | (simp; omega)) _ | refine Below.setCell ?_ (by first | exact Nat.le_refl _ | omega | (simp; done) | (simp; omega)) _)) (by first | exact Nat.le_refl _ | omega | (simp; done) | (simp; omega))) (by first | exact Nat.le_refl _ | omega | (simp; done) | (simp; omega)) (by omega) (by omega) HS0.out).mono ?_
    rintro e u9 ⟨rfl, hm⟩
    rw [← HK1.out]
    have z9 : u8.heap.size ≤ u9.heap.size := hm.size
    replace B0c0 : u9.cell? ⟨w.heap.size, 0, none⟩ = some (.int .i64 nv0) := (by rw [boxQ hm _ B0s (by omega)]; exact B0c0)
    replace B0c1 : u9.cell? ⟨w.heap.size, 1, none⟩ = some (.slice a0 n0 c0) := (by rw [boxQ hm _ B0s (by omega)]; exact B0c1)
    replace B0c2 : u9.cell? ⟨w.heap.size, 2, none⟩ = some (.slice ua0 un0 uc0) := (by rw [boxQ hm _ B0s (by omega)]; exact B0c2)
    replace B0s : w.heap.size < u9.heap.size := (by omega)
    replace B1c0 : u9.cell? ⟨u4.heap.size, 0, none⟩ = some (.int .i64 nv0) := (by rw [boxQ hm _ B1s (by omega)]; exact B1c0)
    replace B1c1 : u9.cell? ⟨u4.heap.size, 1, none⟩ = some (.slice ax0 nx0 cx0) := (by rw [boxQ hm _ B1s (by omega)]; exact B1c1)
    replace B1c2 : u9.cell? ⟨u4.heap.size, 2, none⟩ = some (.slice uax0 unx0 ucx0) := (by rw [boxQ hm _ B1s (by omega)]; exact B1c2)
    replace B1s : u4.heap.size < u9.heap.size := (by omega)
    replace DA0 : Hid (QueryA false (0) w.heap.size u9 nv0 a0 n0 c0 xs0 ua0 un0 uc0 us0) := hid (kpQuery DA0.out (hm.keeps (by omega) (by omega)))
    replace DW : Hid (IntsA true (u2.heap.size) u3.heap.size u9 aW nW cW (pvF nv0 xs0 us0 x1)) := hid (kpInts DW.out (hm.keeps (by omega) (by omega)))
    replace DG : Hid (IntsA true (u4.heap.size + 1) u5.heap.size u9 aG nG cG (pvF nv0 xs0 us0 x1)) := hid (kpInts DG.out (hm.keeps (by omega) (by omega)))
    replace HW : Hid (Below w.heap.size w u9) := hid (HW.out.trans (hm.below (by omega) (by omega)))
    clear hm
    go_wp2_with fail
    refine (eqK_Ints aG aW nG cG nW cW (pvF nv0 xs0 us0 x1) _ (beInts (B := u9.heap.size) DG.out (by repeat (first | assumption | exact Below.refl _ _ | refine below_drewN ?_ _ | refine Below.al ?_ (by first | exact Nat.le_refl _ | omega | (simp; done) | (simp; omega)) _ | refine Below.setCell ?_ (by first | exact Nat.le_refl _ | omega | (simp; done) | (simp; omega)) _)) (by first | exact Nat.le_refl _ | omega | (simp; done) | (simp; omega))) (beInts (B := u9.heap.size) DW.out (by repeat (first | assumption | exact Below.refl _ _ | refine below_drewN ?_ _ | refine Below.al ?_ (by first | exact Nat.le_refl _ | omega | (simp; done) | (simp; omega)) _ | refine Below.setCell ?_ (by first | exact Nat.le_refl _ | omega | (simp; done) | (simp; omega)) _)) (by first | exact Nat.le_refl _ | omega | (simp; done) | (simp; omega)))).mono ?_
    rintro e u10 hg; obtain ⟨rfl, hb⟩ := Gives.leaves hg; clear hg
    have hc : Below u9.heap.size u9 u10 := Below.trans (by repeat (first | assumption | exact Below.refl _ _ | refine below_drewN ?_ _ | refine Below.al ?_ (by first | exact Nat.le_refl _ | omega | (simp; done) | (simp; omega)) _ | refine Below.setCell ?_ (by first | exact Nat.le_refl _ | omega | (simp; done) | (simp; omega)) _)) (hb.mono (by first | exact Nat.le_refl _ | omega | (simp; done) | (simp; omega)))
    have z10 : u9.heap.size ≤ u10.heap.size := hc.size
    replace B0c0 : u10.cell? ⟨w.heap.size, 0, none⟩ = some (.int .i64 nv0) := (by rw [(bcell hc).1 _ _ B0s]; exact B0c0)
    replace B0c1 : u10.cell? ⟨w.heap.size, 1, none⟩ = some (.slice a0 n0 c0) := (by rw [(bcell hc).1 _ _ B0s]; exact B0c1)
    replace B0c2 : u10.cell? ⟨w.heap.size, 2, none⟩ = some (.slice ua0 un0 uc0) := (by rw [(bcell hc).1 _ _ B0s]; exact B0c2)
    replace B0s : w.heap.size < u10.heap.size := (by omega)
    replace B1c0 : u10.cell? ⟨u4.heap.size, 0, none⟩ = some (.int .i64 nv0) := (by rw [(bcell hc).1 _ _ B1s]; exact B1c0)
    replace B1c1 : u10.cell? ⟨u4.heap.size, 1, none⟩ = some (.slice ax0 nx0 cx0) := (by rw [(bcell hc).1 _ _ B1s]; exact B1c1)
    replace B1c2 : u10.cell? ⟨u4.heap.size, 2, none⟩ = some (.slice uax0 unx0 ucx0) := (by rw [(bcell hc).1 _ _ B1s]; exact B1c2)
    replace B1s : u4.heap.size < u10.heap.size := (by omega)
    replace DA0 : Hid (QueryA false (0) w.heap.size u10 nv0 a0 n0 c0 xs0 ua0 un0 uc0 us0) := hid (beQuery DA0.out hc (by omega))
    replace DW : Hid (IntsA true (u2.heap.size) u3.heap.size u10 aW nW cW (pvF nv0 xs0 us0 x1)) := hid (beInts DW.out hc (by omega))
    replace DG : Hid (IntsA true (u4.heap.size + 1) u5.heap.size u10 aG nG cG (pvF nv0 xs0 us0 x1)) := hid (beInts DG.out hc (by omega))
    replace HW : Hid (Below w.heap.size w u10) := hid (Below.calm HW.out hc)
    clear hb hc
    have HSG : Hid (((pvF nv0 xs0 us0 x1)).length ≤ 1048576) := hid (Nat.le_trans (pvF_len nv0 xs0 us0 x1) (by omega))
    obtain ⟨lenG, hlenG⟩ : ∃ l, l = ((pvF nv0 xs0 us0 x1)).length := ⟨_, rfl⟩
    have HLG := hid hlenG; clear hlenG
    obtain ⟨km, hkm⟩ : ∃ k : Int, k = 1 + (lenG : Nat) := ⟨_, rfl⟩
    have hkmb : 0 ≤ km := by omega
    have hkne : (km != km) = false := by simp
    have HKM := hid hkm; clear hkm
    go_wp2_with fail
    refine (resK_Ints aG nG cG ((pvF nv0 xs0 us0 x1)) 1 _ (beInts (B := u10.heap.size) DG.out (by repeat (first | assumption | exact Below.refl _ _ | refine below_drewN ?_ _ | refine Below.al ?_ (by first | exact Nat.le_refl _ | omega | (simp; done) | (simp; omega)) _ | refine Below.setCell ?_ (by first | exact Nat.le_refl _ | omega | (simp; done) | (simp; omega)) _)) (by first | exact Nat.le_refl _ | omega | (simp; done) | (simp; omega))) (by omega) (by omega) HSG.out).mono ?_
    rintro e u11 ⟨rfl, hm, ho⟩
    rw [← HLG.out] at ho ⊢; rw [← HKM.out]
    have z11 : u10.heap.size ≤ u11.heap.size := hm.size
    replace B0c0 : u11.cell? ⟨w.heap.size, 0, none⟩ = some (.int .i64 nv0) := (by rw [boxG hm _ B0s (by omega)]; exact B0c0)
    replace B0c1 : u11.cell? ⟨w.heap.size, 1, none⟩ = some (.slice a0 n0 c0) := (by rw [boxG hm _ B0s (by omega)]; exact B0c1)
    replace B0c2 : u11.cell? ⟨w.heap.size, 2, none⟩ = some (.slice ua0 un0 uc0) := (by rw [boxG hm _ B0s (by omega)]; exact B0c2)
    replace B0s : w.heap.size < u11.heap.size := (by omega)
    replace B1c0 : u11.cell? ⟨u4.heap.size, 0, none⟩ = some (.int .i64 nv0) := (by rw [boxG hm _ B1s (by omega)]; exact B1c0)
    replace B1c1 : u11.cell? ⟨u4.heap.size, 1, none⟩ = some (.slice ax0 nx0 cx0) := (by rw [boxG hm _ B1s (by omega)]; exact B1c1)
    replace B1c2 : u11.cell? ⟨u4.heap.size, 2, none⟩ = some (.slice uax0 unx0 ucx0) := (by rw [boxG hm _ B1s (by omega)]; exact B1c2)
    replace B1s : u4.heap.size < u11.heap.size := (by omega)
    replace DA0 : Hid (QueryA false (0) w.heap.size u11 nv0 a0 n0 c0 xs0 ua0 un0 uc0 us0) := hid (kpQuery DA0.out (hm.keeps (by omega) (by omega)))
    replace DW : Hid (IntsA true (u2.heap.size) u3.heap.size u11 aW nW cW (pvF nv0 xs0 us0 x1)) := hid (kpInts DW.out (hm.keeps (by omega) (by omega)))
    replace HW : Hid (Below w.heap.size w u11) := hid (HW.out.trans (hm.below (by omega) (by omega)))
    have DM : Hid (IntsA true (u4.heap.size + 1) u5.heap.size u11 aG nG cG (marks 1 lenG)) := hid ho
    clear ho hm
    go_wp2_with fail
    refine (heldK_Ints aG nG cG lenG 1 _ (beInts (B := u11.heap.size) DM.out (by repeat (first | assumption | exact Below.refl _ _ | refine below_drewN ?_ _ | refine Below.al ?_ (by first | exact Nat.le_refl _ | omega | (simp; done) | (simp; omega)) _ | refine Below.setCell ?_ (by first | exact Nat.le_refl _ | omega | (simp; done) | (simp; omega)) _)) (by first | exact Nat.le_refl _ | omega | (simp; done) | (simp; omega))) (by omega) (by omega) (by rw [HLG.out]; exact HSG.out)).mono ?_
    rintro e u12 hg; obtain ⟨rfl, hb⟩ := Gives.leaves hg; clear hg
    rw [← HKM.out]
    have hc : Below u11.heap.size u11 u12 := Below.trans (by repeat (first | assumption | exact Below.refl _ _ | refine below_drewN ?_ _ | refine Below.al ?_ (by first | exact Nat.le_refl _ | omega | (simp; done) | (simp; omega)) _ | refine Below.setCell ?_ (by first | exact Nat.le_refl _ | omega | (simp; done) | (simp; omega)) _)) (hb.mono (by first | exact Nat.le_refl _ | omega | (simp; done) | (simp; omega)))
    have z12 : u11.heap.size ≤ u12.heap.size := hc.size
    replace B0c0 : u12.cell? ⟨w.heap.size, 0, none⟩ = some (.int .i64 nv0) := (by rw [(bcell hc).1 _ _ B0s]; exact B0c0)
    replace B0c1 : u12.cell? ⟨w.heap.size, 1, none⟩ = some (.slice a0 n0 c0) := (by rw [(bcell hc).1 _ _ B0s]; exact B0c1)
    replace B0c2 : u12.cell? ⟨w.heap.size, 2, none⟩ = some (.slice ua0 un0 uc0) := (by rw [(bcell hc).1 _ _ B0s]; exact B0c2)
    replace B0s : w.heap.size < u12.heap.size := (by omega)
    replace B1c0 : u12.cell? ⟨u4.heap.size, 0, none⟩ = some (.int .i64 nv0) := (by rw [(bcell hc).1 _ _ B1s]; exact B1c0)
    replace B1c1 : u12.cell? ⟨u4.heap.size, 1, none⟩ = some (.slice ax0 nx0 cx0) := (by rw [(bcell hc).1 _ _ B1s]; exact B1c1)
    replace B1c2 : u12.cell? ⟨u4.heap.size, 2, none⟩ = some (.slice uax0 unx0 ucx0) := (by rw [(bcell hc).1 _ _ B1s]; exact B1c2)
    replace B1s : u4.heap.size < u12.heap.size := (by omega)
    replace DA0 : Hid (QueryA false (0) w.heap.size u12 nv0 a0 n0 c0 xs0 ua0 un0 uc0 us0) := hid (beQuery DA0.out hc (by omega))
    replace DW : Hid (IntsA true (u2.heap.size) u3.heap.size u12 aW nW cW (pvF nv0 xs0 us0 x1)) := hid (beInts DW.out hc (by omega))
    replace DM : Hid (IntsA true (u4.heap.size + 1) u5.heap.size u12 aG nG cG (marks 1 lenG)) := hid (beInts DM.out hc (by omega))
    replace HW : Hid (Below w.heap.size w u12) := hid (Below.calm HW.out hc)
    clear hb hc
    go_wp2_with fail
    refine (toK_Query nv0 a0 n0 c0 xs0 ua0 un0 uc0 us0 _ (beQuery (B := u12.heap.size) DA0.out (by repeat (first | assumption | exact Below.refl _ _ | refine below_drewN ?_ _ | refine Below.al ?_ (by first | exact Nat.le_refl _ | omega | (simp; done) | (simp; omega)) _ | refine Below.setCell ?_ (by first | exact Nat.le_refl _ | omega | (simp; done) | (simp; omega)) _)) (by first | exact Nat.le_refl _ | omega | (simp; done) | (simp; omega))) (by first | exact Nat.le_refl _ | omega | (simp; done) | (simp; omega)) HS0.out).mono ?_
    rintro e u13 ⟨ah0, nh0, ch0, uah0, unh0, uch0, rfl, ho, hb⟩
    have hc : Below u12.heap.size u12 u13 := Below.trans (by repeat (first | assumption | exact Below.refl _ _ | refine below_drewN ?_ _ | refine Below.al ?_ (by first | exact Nat.le_refl _ | omega | (simp; done) | (simp; omega)) _ | refine Below.setCell ?_ (by first | exact Nat.le_refl _ | omega | (simp; done) | (simp; omega)) _)) (hb.mono (by first | exact Nat.le_refl _ | omega | (simp; done) | (simp; omega)))
    have z13 : u12.heap.size ≤ u13.heap.size := hc.size
    replace B0c0 : u13.cell? ⟨w.heap.size, 0, none⟩ = some (.int .i64 nv0) := (by rw [(bcell hc).1 _ _ B0s]; exact B0c0)
    replace B0c1 : u13.cell? ⟨w.heap.size, 1, none⟩ = some (.slice a0 n0 c0) := (by rw [(bcell hc).1 _ _ B0s]; exact B0c1)
    replace B0c2 : u13.cell? ⟨w.heap.size, 2, none⟩ = some (.slice ua0 un0 uc0) := (by rw [(bcell hc).1 _ _ B0s]; exact B0c2)
    replace B0s : w.heap.size < u13.heap.size := (by omega)
    replace B1c0 : u13.cell? ⟨u4.heap.size, 0, none⟩ = some (.int .i64 nv0) := (by rw [(bcell hc).1 _ _ B1s]; exact B1c0)
    replace B1c1 : u13.cell? ⟨u4.heap.size, 1, none⟩ = some (.slice ax0 nx0 cx0) := (by rw [(bcell hc).1 _ _ B1s]; exact B1c1)
    replace B1c2 : u13.cell? ⟨u4.heap.size, 2, none⟩ = some (.slice uax0 unx0 ucx0) := (by rw [(bcell hc).1 _ _ B1s]; exact B1c2)
    replace B1s : u4.heap.size < u13.heap.size := (by omega)
    replace DA0 : Hid (QueryA false (0) w.heap.size u13 nv0 a0 n0 c0 xs0 ua0 un0 uc0 us0) := hid (beQuery DA0.out hc (by omega))
    replace DW : Hid (IntsA true (u2.heap.size) u3.heap.size u13 aW nW cW (pvF nv0 xs0 us0 x1)) := hid (beInts DW.out hc (by omega))
    replace DM : Hid (IntsA true (u4.heap.size + 1) u5.heap.size u13 aG nG cG (marks 1 lenG)) := hid (beInts DM.out hc (by omega))
    replace HW : Hid (Below w.heap.size w u13) := hid (Below.calm HW.out hc)
    have Dh0 : Hid (QueryA true (u12.heap.size) u13.heap.size u13 nv0 ah0 nh0 ch0 xs0 uah0 unh0 uch0 us0) := hid (wdQuery ho (by first | exact Nat.le_refl _ | omega | (simp; done) | (simp; omega)))
    clear ho hb hc
    go_wp2_with fail
    refine ((implPriv nv0 ah0 nh0 ch0 xs0 uah0 unh0 uch0 us0 x1 _ (beQuery (B := u13.heap.size) Dh0.out (by repeat (first | assumption | exact Below.refl _ _ | refine below_drewN ?_ _ | refine Below.al ?_ (by first | exact Nat.le_refl _ | omega | (simp; done) | (simp; omega)) _ | refine Below.setCell ?_ (by first | exact Nat.le_refl _ | omega | (simp; done) | (simp; omega)) _)) (by first | exact Nat.le_refl _ | omega | (simp; done) | (simp; omega))) (by first | exact Nat.le_refl _ | omega | (simp; done) | (simp; omega))).mono fun _ _ h => h.gv).mono ?_
    rintro e u14 ⟨aE, nE, cE, rfl, ho, hb⟩
    have hc : Below u13.heap.size u13 u14 := Below.trans (by repeat (first | assumption | exact Below.refl _ _ | refine below_drewN ?_ _ | refine Below.al ?_ (by first | exact Nat.le_refl _ | omega | (simp; done) | (simp; omega)) _ | refine Below.setCell ?_ (by first | exact Nat.le_refl _ | omega | (simp; done) | (simp; omega)) _)) (hb.mono (by first | exact Nat.le_refl _ | omega | (simp; done) | (simp; omega)))
    have z14 : u13.heap.size ≤ u14.heap.size := hc.size
    replace B0c0 : u14.cell? ⟨w.heap.size, 0, none⟩ = some (.int .i64 nv0) := (by rw [(bcell hc).1 _ _ B0s]; exact B0c0)
    replace B0c1 : u14.cell? ⟨w.heap.size, 1, none⟩ = some (.slice a0 n0 c0) := (by rw [(bcell hc).1 _ _ B0s]; exact B0c1)
    replace B0c2 : u14.cell? ⟨w.heap.size, 2, none⟩ = some (.slice ua0 un0 uc0) := (by rw [(bcell hc).1 _ _ B0s]; exact B0c2)
    replace B0s : w.heap.size < u14.heap.size := (by omega)
    replace B1c0 : u14.cell? ⟨u4.heap.size, 0, none⟩ = some (.int .i64 nv0) := (by rw [(bcell hc).1 _ _ B1s]; exact B1c0)
    replace B1c1 : u14.cell? ⟨u4.heap.size, 1, none⟩ = some (.slice ax0 nx0 cx0) := (by rw [(bcell hc).1 _ _ B1s]; exact B1c1)
    replace B1c2 : u14.cell? ⟨u4.heap.size, 2, none⟩ = some (.slice uax0 unx0 ucx0) := (by rw [(bcell hc).1 _ _ B1s]; exact B1c2)
    replace B1s : u4.heap.size < u14.heap.size := (by omega)
    replace DA0 : Hid (QueryA false (0) w.heap.size u14 nv0 a0 n0 c0 xs0 ua0 un0 uc0 us0) := hid (beQuery DA0.out hc (by omega))
    replace DW : Hid (IntsA true (u2.heap.size) u3.heap.size u14 aW nW cW (pvF nv0 xs0 us0 x1)) := hid (beInts DW.out hc (by omega))
    replace DM : Hid (IntsA true (u4.heap.size + 1) u5.heap.size u14 aG nG cG (marks 1 lenG)) := hid (beInts DM.out hc (by omega))
    replace Dh0 : Hid (QueryA true (u12.heap.size) u13.heap.size u14 nv0 ah0 nh0 ch0 xs0 uah0 unh0 uch0 us0) := hid (beQuery Dh0.out hc (by omega))
    replace HW : Hid (Below w.heap.size w u14) := hid (Below.calm HW.out hc)
    have DE : Hid (IntsA true (u13.heap.size) u14.heap.size u14 aE nE cE (pvF nv0 xs0 us0 x1)) := hid (wdInts ho (by first | exact Nat.le_refl _ | omega | (simp; done) | (simp; omega)))
    clear ho hb hc
    go_wp2_with fail
    refine (eqK_Ints aE aW nE cE nW cW (pvF nv0 xs0 us0 x1) _ (beInts (B := u14.heap.size) DE.out (by repeat (first | assumption | exact Below.refl _ _ | refine below_drewN ?_ _ | refine Below.al ?_ (by first | exact Nat.le_refl _ | omega | (simp; done) | (simp; omega)) _ | refine Below.setCell ?_ (by first | exact Nat.le_refl _ | omega | (simp; done) | (simp; omega)) _)) (by first | exact Nat.le_refl _ | omega | (simp; done) | (simp; omega))) (beInts (B := u14.heap.size) DW.out (by repeat (first | assumption | exact Below.refl _ _ | refine below_drewN ?_ _ | refine Below.al ?_ (by first | exact Nat.le_refl _ | omega | (simp; done) | (simp; omega)) _ | refine Below.setCell ?_ (by first | exact Nat.le_refl _ | omega | (simp; done) | (simp; omega)) _)) (by first | exact Nat.le_refl _ | omega | (simp; done) | (simp; omega)))).mono ?_
    rintro e u15 hg; obtain ⟨rfl, hb⟩ := Gives.leaves hg; clear hg
    have hc : Below u14.heap.size u14 u15 := Below.trans (by repeat (first | assumption | exact Below.refl _ _ | refine below_drewN ?_ _ | refine Below.al ?_ (by first | exact Nat.le_refl _ | omega | (simp; done) | (simp; omega)) _ | refine Below.setCell ?_ (by first | exact Nat.le_refl _ | omega | (simp; done) | (simp; omega)) _)) (hb.mono (by first | exact Nat.le_refl _ | omega | (simp; done) | (simp; omega)))
    have z15 : u14.heap.size ≤ u15.heap.size := hc.size
    replace B0c0 : u15.cell? ⟨w.heap.size, 0, none⟩ = some (.int .i64 nv0) := (by rw [(bcell hc).1 _ _ B0s]; exact B0c0)
    replace B0c1 : u15.cell? ⟨w.heap.size, 1, none⟩ = some (.slice a0 n0 c0) := (by rw [(bcell hc).1 _ _ B0s]; exact B0c1)
    replace B0c2 : u15.cell? ⟨w.heap.size, 2, none⟩ = some (.slice ua0 un0 uc0) := (by rw [(bcell hc).1 _ _ B0s]; exact B0c2)
    replace B0s : w.heap.size < u15.heap.size := (by omega)
    replace B1c0 : u15.cell? ⟨u4.heap.size, 0, none⟩ = some (.int .i64 nv0) := (by rw [(bcell hc).1 _ _ B1s]; exact B1c0)
    replace B1c1 : u15.cell? ⟨u4.heap.size, 1, none⟩ = some (.slice ax0 nx0 cx0) := (by rw [(bcell hc).1 _ _ B1s]; exact B1c1)
    replace B1c2 : u15.cell? ⟨u4.heap.size, 2, none⟩ = some (.slice uax0 unx0 ucx0) := (by rw [(bcell hc).1 _ _ B1s]; exact B1c2)
    replace B1s : u4.heap.size < u15.heap.size := (by omega)
    replace DA0 : Hid (QueryA false (0) w.heap.size u15 nv0 a0 n0 c0 xs0 ua0 un0 uc0 us0) := hid (beQuery DA0.out hc (by omega))
    replace DW : Hid (IntsA true (u2.heap.size) u3.heap.size u15 aW nW cW (pvF nv0 xs0 us0 x1)) := hid (beInts DW.out hc (by omega))
    replace DM : Hid (IntsA true (u4.heap.size + 1) u5.heap.size u15 aG nG cG (marks 1 lenG)) := hid (beInts DM.out hc (by omega))
    replace Dh0 : Hid (QueryA true (u12.heap.size) u13.heap.size u15 nv0 ah0 nh0 ch0 xs0 uah0 unh0 uch0 us0) := hid (beQuery Dh0.out hc (by omega))
    replace DE : Hid (IntsA true (u13.heap.size) u14.heap.size u15 aE nE cE (pvF nv0 xs0 us0 x1)) := hid (beInts DE.out hc (by omega))
    replace HW : Hid (Below w.heap.size w u15) := hid (Below.calm HW.out hc)
    clear hb hc
    go_wp2_with fail
    refine (heldK_Ints aG nG cG lenG 1 _ (beInts (B := u15.heap.size) DM.out (by repeat (first | assumption | exact Below.refl _ _ | refine below_drewN ?_ _ | refine Below.al ?_ (by first | exact Nat.le_refl _ | omega | (simp; done) | (simp; omega)) _ | refine Below.setCell ?_ (by first | exact Nat.le_refl _ | omega | (simp; done) | (simp; omega)) _)) (by first | exact Nat.le_refl _ | omega | (simp; done) | (simp; omega))) (by omega) (by omega) (by rw [HLG.out]; exact HSG.out)).mono ?_
    rintro e u16 hg; obtain ⟨rfl, hb⟩ := Gives.leaves hg; clear hg
    rw [← HKM.out]
    have hc : Below u15.heap.size u15 u16 := Below.trans (by repeat (first | assumption | exact Below.refl _ _ | refine below_drewN ?_ _ | refine Below.al ?_ (by first | exact Nat.le_refl _ | omega | (simp; done) | (simp; omega)) _ | refine Below.setCell ?_ (by first | exact Nat.le_refl _ | omega | (simp; done) | (simp; omega)) _)) (hb.mono (by first | exact Nat.le_refl _ | omega | (simp; done) | (simp; omega)))
    have z16 : u15.heap.size ≤ u16.heap.size := hc.size
    replace B0c0 : u16.cell? ⟨w.heap.size, 0, none⟩ = some (.int .i64 nv0) := (by rw [(bcell hc).1 _ _ B0s]; exact B0c0)
    replace B0c1 : u16.cell? ⟨w.heap.size, 1, none⟩ = some (.slice a0 n0 c0) := (by rw [(bcell hc).1 _ _ B0s]; exact B0c1)
    replace B0c2 : u16.cell? ⟨w.heap.size, 2, none⟩ = some (.slice ua0 un0 uc0) := (by rw [(bcell hc).1 _ _ B0s]; exact B0c2)
    replace B0s : w.heap.size < u16.heap.size := (by omega)
    replace B1c0 : u16.cell? ⟨u4.heap.size, 0, none⟩ = some (.int .i64 nv0) := (by rw [(bcell hc).1 _ _ B1s]; exact B1c0)
    replace B1c1 : u16.cell? ⟨u4.heap.size, 1, none⟩ = some (.slice ax0 nx0 cx0) := (by rw [(bcell hc).1 _ _ B1s]; exact B1c1)
    replace B1c2 : u16.cell? ⟨u4.heap.size, 2, none⟩ = some (.slice uax0 unx0 ucx0) := (by rw [(bcell hc).1 _ _ B1s]; exact B1c2)
    replace B1s : u4.heap.size < u16.heap.size := (by omega)
    replace DA0 : Hid (QueryA false (0) w.heap.size u16 nv0 a0 n0 c0 xs0 ua0 un0 uc0 us0) := hid (beQuery DA0.out hc (by omega))
    replace DW : Hid (IntsA true (u2.heap.size) u3.heap.size u16 aW nW cW (pvF nv0 xs0 us0 x1)) := hid (beInts DW.out hc (by omega))
    replace DM : Hid (IntsA true (u4.heap.size + 1) u5.heap.size u16 aG nG cG (marks 1 lenG)) := hid (beInts DM.out hc (by omega))
    replace Dh0 : Hid (QueryA true (u12.heap.size) u13.heap.size u16 nv0 ah0 nh0 ch0 xs0 uah0 unh0 uch0 us0) := hid (beQuery Dh0.out hc (by omega))
    replace DE : Hid (IntsA true (u13.heap.size) u14.heap.size u16 aE nE cE (pvF nv0 xs0 us0 x1)) := hid (beInts DE.out hc (by omega))
    replace HW : Hid (Below w.heap.size w u16) := hid (Below.calm HW.out hc)
    clear hb hc
    go_wp2_with fail
    go_ret
    exact ⟨rfl, HW.out⟩
  · rw [szI_no hsz0]
    have HQ0 := hid hsz0; clear hsz0
    go_wp2_with fail
    go_ret
    exact ⟨rfl, HW.out⟩
end Go.Proofs.Ytbjbgfeaiepejaa
