/- The walk of the law FnExactTrieToRelation: it returns true and changes nothing that was there. Written by lawwalk.py. -/
import Derived.Test.YteccheoejmmjeaaU12
namespace Go.Proofs.Yteccheoejmmjeaa
set_option linter.unusedSimpArgs false
set_option linter.unusedVariables false
open Go.RowKit
set_option maxHeartbeats 4000000 in
theorem law_FnExactTrieToRelation (ar0 : Int) (a0 : Option Addr) (n0 : Nat) (c0 : Nat) (rows0 : List (List Int)) (a1 : Option Addr) (n1 : Nat) (c1 : Nat) (xs1 : List Int) (w : World) (hD0 : TrieA false (0) w.heap.size w ar0 a0 n0 c0 rows0) (hD1 : IntsA false (0) w.heap.size w a1 n1 c1 xs1) :
    Calls Try.prog 4 #[trieV ar0 a0 n0 c0, .slice a1 n1 c1] w (Leaves w (.bool true)) := by
  have DA0 := hid hD0; clear hD0
  have DA1 := hid hD1; clear hD1
  have hl1 := DA1.out.len; have HL1 := hid hl1; clear hl1
  by_cases hn1 : n1 ≤ 1048576
  · have HS1 : Hid (xs1.length ≤ 1048576) := hid (by rw [HL1.out]; exact hn1)
    go_enter Try.func4, Try.ntmps4
    go_wp2_with fail
    refine (szK_Trie ar0 a0 n0 c0 rows0 1048576 _ (beTrie (B := w.heap.size) DA0.out (by repeat (first | with_reducible assumption | with_reducible exact Below.refl _ _ | with_reducible refine below_drewN ?_ _ | with_reducible refine Below.al ?_ (by first | with_reducible exact Nat.le_refl _ | omega | (simp; done) | (simp; omega) | exact Nat.le_refl _) _ | with_reducible refine Below.setCell ?_ (by first | with_reducible exact Nat.le_refl _ | omega | (simp; done) | (simp; omega) | exact Nat.le_refl _) _ | assumption | exact Below.refl _ _ | refine below_drewN ?_ _ | refine Below.al ?_ (by first | with_reducible exact Nat.le_refl _ | omega | (simp; done) | (simp; omega) | exact Nat.le_refl _) _ | refine Below.setCell ?_ (by first | with_reducible exact Nat.le_refl _ | omega | (simp; done) | (simp; omega) | exact Nat.le_refl _) _)) (by first | with_reducible exact Nat.le_refl _ | omega | (simp; done) | (simp; omega) | exact Nat.le_refl _)) (by first | with_reducible exact Nat.le_refl _ | omega | (simp; done) | (simp; omega) | exact Nat.le_refl _) (by omega) (by omega)).mono ?_
    rintro e u1 ⟨rfl, hb⟩
    have hc : Below w.heap.size w u1 := Below.trans (by repeat (first | with_reducible assumption | with_reducible exact Below.refl _ _ | with_reducible refine below_drewN ?_ _ | with_reducible refine Below.al ?_ (by first | with_reducible exact Nat.le_refl _ | omega | (simp; done) | (simp; omega) | exact Nat.le_refl _) _ | with_reducible refine Below.setCell ?_ (by first | with_reducible exact Nat.le_refl _ | omega | (simp; done) | (simp; omega) | exact Nat.le_refl _) _ | assumption | exact Below.refl _ _ | refine below_drewN ?_ _ | refine Below.al ?_ (by first | with_reducible exact Nat.le_refl _ | omega | (simp; done) | (simp; omega) | exact Nat.le_refl _) _ | refine Below.setCell ?_ (by first | with_reducible exact Nat.le_refl _ | omega | (simp; done) | (simp; omega) | exact Nat.le_refl _) _)) (hb.mono (by first | with_reducible exact Nat.le_refl _ | omega | (simp; done) | (simp; omega) | exact Nat.le_refl _))
    have z1 : w.heap.size ≤ u1.heap.size := hc.size
    have B0c0 : u1.cell? ⟨w.heap.size, 0, none⟩ = some (.int .i64 ar0) := (by rw [(bcell hb).1 _ _ (by first | omega | (simp; done) | (simp; omega))]; first | with_reducible assumption | (go_simp; done) | assumption | (simp [World.cell?]; done))
    have B0c1 : u1.cell? ⟨w.heap.size, 1, none⟩ = some (.slice a0 n0 c0) := (by rw [(bcell hb).1 _ _ (by first | omega | (simp; done) | (simp; omega))]; first | with_reducible assumption | (go_simp; done) | assumption | (simp [World.cell?]; done))
    have B0p : w.heap.size < u1.heap.size := World.block_lt_of_cell? _ _ B0c0
    have B0s : w.heap.size < u1.heap.size := B0p
    replace DA0 : Hid (TrieA false (0) w.heap.size u1 ar0 a0 n0 c0 rows0) := hid (beTrie DA0.out hc (by omega))
    replace DA1 : Hid (IntsA false (0) w.heap.size u1 a1 n1 c1 xs1) := hid (beInts DA1.out hc (by omega))
    have HW := hid hc
    clear hb hc
    by_cases hsz0 : (rowsSz rows0 : Int) ≤ 1048576
    · rw [szI_yes hsz0]
      obtain ⟨left0, hleft0⟩ : ∃ l, l = 1048576 - (rowsSz rows0 : Int) := ⟨_, rfl⟩
      rw [← hleft0]
      have hlo0 : 0 ≤ left0 := by omega
      have hhi0 : left0 ≤ 1048576 := by omega
      have HS0 : Hid (rowsSz rows0 ≤ 1048576) := hid (by omega)
      have HQ0 := hid (And.intro hsz0 hleft0); clear hsz0 hleft0
      go_wp2_with fail
      refine (toK_Trie ar0 a0 n0 c0 rows0 _ (beTrie (B := u1.heap.size) DA0.out (by repeat (first | with_reducible assumption | with_reducible exact Below.refl _ _ | with_reducible refine below_drewN ?_ _ | with_reducible refine Below.al ?_ (by first | with_reducible exact Nat.le_refl _ | omega | (simp; done) | (simp; omega) | exact Nat.le_refl _) _ | with_reducible refine Below.setCell ?_ (by first | with_reducible exact Nat.le_refl _ | omega | (simp; done) | (simp; omega) | exact Nat.le_refl _) _ | assumption | exact Below.refl _ _ | refine below_drewN ?_ _ | refine Below.al ?_ (by first | with_reducible exact Nat.le_refl _ | omega | (simp; done) | (simp; omega) | exact Nat.le_refl _) _ | refine Below.setCell ?_ (by first | with_reducible exact Nat.le_refl _ | omega | (simp; done) | (simp; omega) | exact Nat.le_refl _) _)) (by first | with_reducible exact Nat.le_refl _ | omega | (simp; done) | (simp; omega) | exact Nat.le_refl _)) (by first | with_reducible exact Nat.le_refl _ | omega | (simp; done) | (simp; omega) | exact Nat.le_refl _) HS0.out).mono ?_
      rintro e u2 ⟨ap0, np0, cp0, rfl, ho, hb⟩
      have hc : Below u1.heap.size u1 u2 := Below.trans (by repeat (first | with_reducible assumption | with_reducible exact Below.refl _ _ | with_reducible refine below_drewN ?_ _ | with_reducible refine Below.al ?_ (by first | with_reducible exact Nat.le_refl _ | omega | (simp; done) | (simp; omega) | exact Nat.le_refl _) _ | with_reducible refine Below.setCell ?_ (by first | with_reducible exact Nat.le_refl _ | omega | (simp; done) | (simp; omega) | exact Nat.le_refl _) _ | assumption | exact Below.refl _ _ | refine below_drewN ?_ _ | refine Below.al ?_ (by first | with_reducible exact Nat.le_refl _ | omega | (simp; done) | (simp; omega) | exact Nat.le_refl _) _ | refine Below.setCell ?_ (by first | with_reducible exact Nat.le_refl _ | omega | (simp; done) | (simp; omega) | exact Nat.le_refl _) _)) (hb.mono (by first | with_reducible exact Nat.le_refl _ | omega | (simp; done) | (simp; omega) | exact Nat.le_refl _))
      have z2 : u1.heap.size ≤ u2.heap.size := hc.size
      replace B0c0 : u2.cell? ⟨w.heap.size, 0, none⟩ = some (.int .i64 ar0) := (by rw [(bcell hc).1 _ _ B0s]; exact B0c0)
      replace B0c1 : u2.cell? ⟨w.heap.size, 1, none⟩ = some (.slice a0 n0 c0) := (by rw [(bcell hc).1 _ _ B0s]; exact B0c1)
      replace B0s : w.heap.size < u2.heap.size := (by omega)
      replace DA0 : Hid (TrieA false (0) w.heap.size u2 ar0 a0 n0 c0 rows0) := hid (beTrie DA0.out hc (by omega))
      replace DA1 : Hid (IntsA false (0) w.heap.size u2 a1 n1 c1 xs1) := hid (beInts DA1.out hc (by omega))
      replace HW : Hid (Below w.heap.size w u2) := hid (Below.calm HW.out hc)
      have Dp0 : Hid (TrieA true (u1.heap.size) u2.heap.size u2 ar0 ap0 np0 cp0 rows0) := hid (wdTrie ho (by first | with_reducible exact Nat.le_refl _ | omega | (simp; done) | (simp; omega) | exact Nat.le_refl _))
      clear ho hb hc
      go_wp2_with fail
      refine (toK_Ints a1 n1 c1 xs1 _ (beInts (B := u2.heap.size) DA1.out (by repeat (first | with_reducible assumption | with_reducible exact Below.refl _ _ | with_reducible refine below_drewN ?_ _ | with_reducible refine Below.al ?_ (by first | with_reducible exact Nat.le_refl _ | omega | (simp; done) | (simp; omega) | exact Nat.le_refl _) _ | with_reducible refine Below.setCell ?_ (by first | with_reducible exact Nat.le_refl _ | omega | (simp; done) | (simp; omega) | exact Nat.le_refl _) _ | assumption | exact Below.refl _ _ | refine below_drewN ?_ _ | refine Below.al ?_ (by first | with_reducible exact Nat.le_refl _ | omega | (simp; done) | (simp; omega) | exact Nat.le_refl _) _ | refine Below.setCell ?_ (by first | with_reducible exact Nat.le_refl _ | omega | (simp; done) | (simp; omega) | exact Nat.le_refl _) _)) (by first | with_reducible exact Nat.le_refl _ | omega | (simp; done) | (simp; omega) | exact Nat.le_refl _)) (by first | with_reducible exact Nat.le_refl _ | omega | (simp; done) | (simp; omega) | exact Nat.le_refl _) HS1.out).mono ?_
      rintro e u3 ⟨ap1, np1, cp1, rfl, ho, hb⟩
      have hc : Below u2.heap.size u2 u3 := Below.trans (by repeat (first | with_reducible assumption | with_reducible exact Below.refl _ _ | with_reducible refine below_drewN ?_ _ | with_reducible refine Below.al ?_ (by first | with_reducible exact Nat.le_refl _ | omega | (simp; done) | (simp; omega) | exact Nat.le_refl _) _ | with_reducible refine Below.setCell ?_ (by first | with_reducible exact Nat.le_refl _ | omega | (simp; done) | (simp; omega) | exact Nat.le_refl _) _ | assumption | exact Below.refl _ _ | refine below_drewN ?_ _ | refine Below.al ?_ (by first | with_reducible exact Nat.le_refl _ | omega | (simp; done) | (simp; omega) | exact Nat.le_refl _) _ | refine Below.setCell ?_ (by first | with_reducible exact Nat.le_refl _ | omega | (simp; done) | (simp; omega) | exact Nat.le_refl _) _)) (hb.mono (by first | with_reducible exact Nat.le_refl _ | omega | (simp; done) | (simp; omega) | exact Nat.le_refl _))
      have z3 : u2.heap.size ≤ u3.heap.size := hc.size
      replace B0c0 : u3.cell? ⟨w.heap.size, 0, none⟩ = some (.int .i64 ar0) := (by rw [(bcell hc).1 _ _ B0s]; exact B0c0)
      replace B0c1 : u3.cell? ⟨w.heap.size, 1, none⟩ = some (.slice a0 n0 c0) := (by rw [(bcell hc).1 _ _ B0s]; exact B0c1)
      replace B0s : w.heap.size < u3.heap.size := (by omega)
      replace DA0 : Hid (TrieA false (0) w.heap.size u3 ar0 a0 n0 c0 rows0) := hid (beTrie DA0.out hc (by omega))
      replace DA1 : Hid (IntsA false (0) w.heap.size u3 a1 n1 c1 xs1) := hid (beInts DA1.out hc (by omega))
      replace Dp0 : Hid (TrieA true (u1.heap.size) u2.heap.size u3 ar0 ap0 np0 cp0 rows0) := hid (beTrie Dp0.out hc (by omega))
      replace HW : Hid (Below w.heap.size w u3) := hid (Below.calm HW.out hc)
      have Dp1 : Hid (IntsA true (u2.heap.size) u3.heap.size u3 ap1 np1 cp1 xs1) := hid (wdInts ho (by first | with_reducible exact Nat.le_refl _ | omega | (simp; done) | (simp; omega) | exact Nat.le_refl _))
      clear ho hb hc
      obtain ⟨dar, hdar⟩ : ∃ x : Int, ttAr ar0 rows0 xs1 = x := ⟨_, rfl⟩
      have HDar := hid hdar; clear hdar
      obtain ⟨drows, hdrows⟩ : ∃ x : List (List Int), ttRows ar0 rows0 xs1 = x := ⟨_, rfl⟩
      have HDrows := hid hdrows; clear hdrows
      obtain ⟨rb, hrb⟩ : ∃ x : Bool, ttOK ar0 rows0 xs1 = x := ⟨_, rfl⟩
      have hneb : ((rb : Bool) != rb) = false := by simp
      have HRB := hid hrb; clear hrb
      go_wp2_with fail
      refine (rel_read (specToRelA ar0 rows0 xs1 HS1.out) (beTrie (B := u3.heap.size) Dp0.out (by repeat (first | with_reducible assumption | with_reducible exact Below.refl _ _ | with_reducible refine below_drewN ?_ _ | with_reducible refine Below.al ?_ (by first | with_reducible exact Nat.le_refl _ | omega | (simp; done) | (simp; omega) | exact Nat.le_refl _) _ | with_reducible refine Below.setCell ?_ (by first | with_reducible exact Nat.le_refl _ | omega | (simp; done) | (simp; omega) | exact Nat.le_refl _) _ | assumption | exact Below.refl _ _ | refine below_drewN ?_ _ | refine Below.al ?_ (by first | with_reducible exact Nat.le_refl _ | omega | (simp; done) | (simp; omega) | exact Nat.le_refl _) _ | refine Below.setCell ?_ (by first | with_reducible exact Nat.le_refl _ | omega | (simp; done) | (simp; omega) | exact Nat.le_refl _) _)) (by first | with_reducible exact Nat.le_refl _ | omega | (simp; done) | (simp; omega) | exact Nat.le_refl _)) (by first | with_reducible exact Nat.le_refl _ | omega | (simp; done) | (simp; omega) | exact Nat.le_refl _) (beInts (B := u3.heap.size) Dp1.out (by repeat (first | with_reducible assumption | with_reducible exact Below.refl _ _ | with_reducible refine below_drewN ?_ _ | with_reducible refine Below.al ?_ (by first | with_reducible exact Nat.le_refl _ | omega | (simp; done) | (simp; omega) | exact Nat.le_refl _) _ | with_reducible refine Below.setCell ?_ (by first | with_reducible exact Nat.le_refl _ | omega | (simp; done) | (simp; omega) | exact Nat.le_refl _) _ | assumption | exact Below.refl _ _ | refine below_drewN ?_ _ | refine Below.al ?_ (by first | with_reducible exact Nat.le_refl _ | omega | (simp; done) | (simp; omega) | exact Nat.le_refl _) _ | refine Below.setCell ?_ (by first | with_reducible exact Nat.le_refl _ | omega | (simp; done) | (simp; omega) | exact Nat.le_refl _) _)) (by first | with_reducible exact Nat.le_refl _ | omega | (simp; done) | (simp; omega) | exact Nat.le_refl _)) (by first | with_reducible exact Nat.le_refl _ | omega | (simp; done) | (simp; omega) | exact Nat.le_refl _) (by first | with_reducible exact Nat.le_refl _ | omega | (simp; done) | (simp; omega) | exact Nat.le_refl _) (by first | with_reducible exact Nat.le_refl _ | omega | (simp; done) | (simp; omega) | exact Nat.le_refl _)).mono ?_
      rintro e u4 ⟨aW, nW, cW, rfl, ho, hb⟩
      rw [HDar.out, HDrows.out] at ho; rw [HDar.out, HRB.out]
      have hc : Below u3.heap.size u3 u4 := Below.trans (by repeat (first | with_reducible assumption | with_reducible exact Below.refl _ _ | with_reducible refine below_drewN ?_ _ | with_reducible refine Below.al ?_ (by first | with_reducible exact Nat.le_refl _ | omega | (simp; done) | (simp; omega) | exact Nat.le_refl _) _ | with_reducible refine Below.setCell ?_ (by first | with_reducible exact Nat.le_refl _ | omega | (simp; done) | (simp; omega) | exact Nat.le_refl _) _ | assumption | exact Below.refl _ _ | refine below_drewN ?_ _ | refine Below.al ?_ (by first | with_reducible exact Nat.le_refl _ | omega | (simp; done) | (simp; omega) | exact Nat.le_refl _) _ | refine Below.setCell ?_ (by first | with_reducible exact Nat.le_refl _ | omega | (simp; done) | (simp; omega) | exact Nat.le_refl _) _)) (hb.mono (by first | with_reducible exact Nat.le_refl _ | omega | (simp; done) | (simp; omega) | exact Nat.le_refl _))
      have z4 : u3.heap.size ≤ u4.heap.size := hc.size
      replace B0c0 : u4.cell? ⟨w.heap.size, 0, none⟩ = some (.int .i64 ar0) := (by rw [(bcell hc).1 _ _ B0s]; exact B0c0)
      replace B0c1 : u4.cell? ⟨w.heap.size, 1, none⟩ = some (.slice a0 n0 c0) := (by rw [(bcell hc).1 _ _ B0s]; exact B0c1)
      replace B0s : w.heap.size < u4.heap.size := (by omega)
      replace DA0 : Hid (TrieA false (0) w.heap.size u4 ar0 a0 n0 c0 rows0) := hid (beTrie DA0.out hc (by omega))
      replace DA1 : Hid (IntsA false (0) w.heap.size u4 a1 n1 c1 xs1) := hid (beInts DA1.out hc (by omega))
      replace Dp0 : Hid (TrieA true (u1.heap.size) u2.heap.size u4 ar0 ap0 np0 cp0 rows0) := hid (beTrie Dp0.out hc (by omega))
      replace Dp1 : Hid (IntsA true (u2.heap.size) u3.heap.size u4 ap1 np1 cp1 xs1) := hid (beInts Dp1.out hc (by omega))
      replace HW : Hid (Below w.heap.size w u4) := hid (Below.calm HW.out hc)
      have DW : Hid (TrieA false (u1.heap.size) u4.heap.size u4 dar aW nW cW drows) := hid ho
      clear ho hb hc
      go_wp2_with fail
      refine (toK_Trie ar0 a0 n0 c0 rows0 _ (beTrie (B := u4.heap.size) DA0.out (by repeat (first | with_reducible assumption | with_reducible exact Below.refl _ _ | with_reducible refine below_drewN ?_ _ | with_reducible refine Below.al ?_ (by first | with_reducible exact Nat.le_refl _ | omega | (simp; done) | (simp; omega) | exact Nat.le_refl _) _ | with_reducible refine Below.setCell ?_ (by first | with_reducible exact Nat.le_refl _ | omega | (simp; done) | (simp; omega) | exact Nat.le_refl _) _ | assumption | exact Below.refl _ _ | refine below_drewN ?_ _ | refine Below.al ?_ (by first | with_reducible exact Nat.le_refl _ | omega | (simp; done) | (simp; omega) | exact Nat.le_refl _) _ | refine Below.setCell ?_ (by first | with_reducible exact Nat.le_refl _ | omega | (simp; done) | (simp; omega) | exact Nat.le_refl _) _)) (by first | with_reducible exact Nat.le_refl _ | omega | (simp; done) | (simp; omega) | exact Nat.le_refl _)) (by first | with_reducible exact Nat.le_refl _ | omega | (simp; done) | (simp; omega) | exact Nat.le_refl _) HS0.out).mono ?_
      rintro e u5 ⟨ax0, nx0, cx0, rfl, ho, hb⟩
      have hc : Below u4.heap.size u4 u5 := Below.trans (by repeat (first | with_reducible assumption | with_reducible exact Below.refl _ _ | with_reducible refine below_drewN ?_ _ | with_reducible refine Below.al ?_ (by first | with_reducible exact Nat.le_refl _ | omega | (simp; done) | (simp; omega) | exact Nat.le_refl _) _ | with_reducible refine Below.setCell ?_ (by first | with_reducible exact Nat.le_refl _ | omega | (simp; done) | (simp; omega) | exact Nat.le_refl _) _ | assumption | exact Below.refl _ _ | refine below_drewN ?_ _ | refine Below.al ?_ (by first | with_reducible exact Nat.le_refl _ | omega | (simp; done) | (simp; omega) | exact Nat.le_refl _) _ | refine Below.setCell ?_ (by first | with_reducible exact Nat.le_refl _ | omega | (simp; done) | (simp; omega) | exact Nat.le_refl _) _)) (hb.mono (by first | with_reducible exact Nat.le_refl _ | omega | (simp; done) | (simp; omega) | exact Nat.le_refl _))
      have z5 : u4.heap.size ≤ u5.heap.size := hc.size
      replace B0c0 : u5.cell? ⟨w.heap.size, 0, none⟩ = some (.int .i64 ar0) := (by rw [(bcell hc).1 _ _ B0s]; exact B0c0)
      replace B0c1 : u5.cell? ⟨w.heap.size, 1, none⟩ = some (.slice a0 n0 c0) := (by rw [(bcell hc).1 _ _ B0s]; exact B0c1)
      replace B0s : w.heap.size < u5.heap.size := (by omega)
      have B1c0 : u5.cell? ⟨u4.heap.size, 0, none⟩ = some (.int .i64 dar) := (by rw [(bcell hb).1 _ _ (by first | omega | (simp; done) | (simp; omega))]; first | with_reducible assumption | (go_simp; done) | assumption | (simp [World.cell?]; done))
      have B1c1 : u5.cell? ⟨u4.heap.size, 1, none⟩ = some (.slice aW nW cW) := (by rw [(bcell hb).1 _ _ (by first | omega | (simp; done) | (simp; omega))]; first | with_reducible assumption | (go_simp; done) | assumption | (simp [World.cell?]; done))
      have B1p : u4.heap.size < u5.heap.size := World.block_lt_of_cell? _ _ B1c0
      have B1s : u4.heap.size < u5.heap.size := B1p
      replace DA0 : Hid (TrieA false (0) w.heap.size u5 ar0 a0 n0 c0 rows0) := hid (beTrie DA0.out hc (by omega))
      replace DA1 : Hid (IntsA false (0) w.heap.size u5 a1 n1 c1 xs1) := hid (beInts DA1.out hc (by omega))
      replace DW : Hid (TrieA false (u1.heap.size) u4.heap.size u5 dar aW nW cW drows) := hid (beTrie DW.out hc (by omega))
      replace HW : Hid (Below w.heap.size w u5) := hid (Below.calm HW.out hc)
      have Dx0 : Hid (TrieA true (u4.heap.size + 1) u5.heap.size u5 ar0 ax0 nx0 cx0 rows0) := hid (wdTrie ho (by first | with_reducible exact Nat.le_refl _ | omega | (simp; done) | (simp; omega) | exact Nat.le_refl _))
      clear ho hb hc
      go_wp2_with fail
      refine (toK_Ints a1 n1 c1 xs1 _ (beInts (B := u5.heap.size) DA1.out (by repeat (first | with_reducible assumption | with_reducible exact Below.refl _ _ | with_reducible refine below_drewN ?_ _ | with_reducible refine Below.al ?_ (by first | with_reducible exact Nat.le_refl _ | omega | (simp; done) | (simp; omega) | exact Nat.le_refl _) _ | with_reducible refine Below.setCell ?_ (by first | with_reducible exact Nat.le_refl _ | omega | (simp; done) | (simp; omega) | exact Nat.le_refl _) _ | assumption | exact Below.refl _ _ | refine below_drewN ?_ _ | refine Below.al ?_ (by first | with_reducible exact Nat.le_refl _ | omega | (simp; done) | (simp; omega) | exact Nat.le_refl _) _ | refine Below.setCell ?_ (by first | with_reducible exact Nat.le_refl _ | omega | (simp; done) | (simp; omega) | exact Nat.le_refl _) _)) (by first | with_reducible exact Nat.le_refl _ | omega | (simp; done) | (simp; omega) | exact Nat.le_refl _)) (by first | with_reducible exact Nat.le_refl _ | omega | (simp; done) | (simp; omega) | exact Nat.le_refl _) HS1.out).mono ?_
      rintro e u6 ⟨ax1, nx1, cx1, rfl, ho, hb⟩
      have hc : Below u5.heap.size u5 u6 := Below.trans (by repeat (first | with_reducible assumption | with_reducible exact Below.refl _ _ | with_reducible refine below_drewN ?_ _ | with_reducible refine Below.al ?_ (by first | with_reducible exact Nat.le_refl _ | omega | (simp; done) | (simp; omega) | exact Nat.le_refl _) _ | with_reducible refine Below.setCell ?_ (by first | with_reducible exact Nat.le_refl _ | omega | (simp; done) | (simp; omega) | exact Nat.le_refl _) _ | assumption | exact Below.refl _ _ | refine below_drewN ?_ _ | refine Below.al ?_ (by first | with_reducible exact Nat.le_refl _ | omega | (simp; done) | (simp; omega) | exact Nat.le_refl _) _ | refine Below.setCell ?_ (by first | with_reducible exact Nat.le_refl _ | omega | (simp; done) | (simp; omega) | exact Nat.le_refl _) _)) (hb.mono (by first | with_reducible exact Nat.le_refl _ | omega | (simp; done) | (simp; omega) | exact Nat.le_refl _))
      have z6 : u5.heap.size ≤ u6.heap.size := hc.size
      replace B0c0 : u6.cell? ⟨w.heap.size, 0, none⟩ = some (.int .i64 ar0) := (by rw [(bcell hc).1 _ _ B0s]; exact B0c0)
      replace B0c1 : u6.cell? ⟨w.heap.size, 1, none⟩ = some (.slice a0 n0 c0) := (by rw [(bcell hc).1 _ _ B0s]; exact B0c1)
      replace B0s : w.heap.size < u6.heap.size := (by omega)
      replace B1c0 : u6.cell? ⟨u4.heap.size, 0, none⟩ = some (.int .i64 dar) := (by rw [(bcell hc).1 _ _ B1s]; exact B1c0)
      replace B1c1 : u6.cell? ⟨u4.heap.size, 1, none⟩ = some (.slice aW nW cW) := (by rw [(bcell hc).1 _ _ B1s]; exact B1c1)
      replace B1s : u4.heap.size < u6.heap.size := (by omega)
      have B2c0 : u6.cell? ⟨u5.heap.size, 0, none⟩ = some (.int .i64 ar0) := (by rw [(bcell hb).1 _ _ (by first | omega | (simp; done) | (simp; omega))]; first | with_reducible assumption | (go_simp; done) | assumption | (simp [World.cell?]; done))
      have B2c1 : u6.cell? ⟨u5.heap.size, 1, none⟩ = some (.slice ax0 nx0 cx0) := (by rw [(bcell hb).1 _ _ (by first | omega | (simp; done) | (simp; omega))]; first | with_reducible assumption | (go_simp; done) | assumption | (simp [World.cell?]; done))
      have B2p : u5.heap.size < u6.heap.size := World.block_lt_of_cell? _ _ B2c0
      have B2s : u5.heap.size < u6.heap.size := B2p
      replace DA0 : Hid (TrieA false (0) w.heap.size u6 ar0 a0 n0 c0 rows0) := hid (beTrie DA0.out hc (by omega))
      replace DA1 : Hid (IntsA false (0) w.heap.size u6 a1 n1 c1 xs1) := hid (beInts DA1.out hc (by omega))
      replace DW : Hid (TrieA false (u1.heap.size) u4.heap.size u6 dar aW nW cW drows) := hid (beTrie DW.out hc (by omega))
      replace Dx0 : Hid (TrieA true (u4.heap.size + 1) u5.heap.size u6 ar0 ax0 nx0 cx0 rows0) := hid (beTrie Dx0.out hc (by omega))
      replace HW : Hid (Below w.heap.size w u6) := hid (Below.calm HW.out hc)
      have Dx1 : Hid (IntsA true (u5.heap.size + 1) u6.heap.size u6 ax1 nx1 cx1 xs1) := hid (wdInts ho (by first | with_reducible exact Nat.le_refl _ | omega | (simp; done) | (simp; omega) | exact Nat.le_refl _))
      clear ho hb hc
      go_wp2_with fail
      refine (rel_own (implToRelA ar0 rows0 xs1 HS1.out) (tt_asc _ _ _).1 (tt_asc _ _ _).2 (beTrie (B := u6.heap.size) Dx0.out (by repeat (first | with_reducible assumption | with_reducible exact Below.refl _ _ | with_reducible refine below_drewN ?_ _ | with_reducible refine Below.al ?_ (by first | with_reducible exact Nat.le_refl _ | omega | (simp; done) | (simp; omega) | exact Nat.le_refl _) _ | with_reducible refine Below.setCell ?_ (by first | with_reducible exact Nat.le_refl _ | omega | (simp; done) | (simp; omega) | exact Nat.le_refl _) _ | assumption | exact Below.refl _ _ | refine below_drewN ?_ _ | refine Below.al ?_ (by first | with_reducible exact Nat.le_refl _ | omega | (simp; done) | (simp; omega) | exact Nat.le_refl _) _ | refine Below.setCell ?_ (by first | with_reducible exact Nat.le_refl _ | omega | (simp; done) | (simp; omega) | exact Nat.le_refl _) _)) (by first | with_reducible exact Nat.le_refl _ | omega | (simp; done) | (simp; omega) | exact Nat.le_refl _)) (by first | with_reducible exact Nat.le_refl _ | omega | (simp; done) | (simp; omega) | exact Nat.le_refl _) (beInts (B := u6.heap.size) Dx1.out (by repeat (first | with_reducible assumption | with_reducible exact Below.refl _ _ | with_reducible refine below_drewN ?_ _ | with_reducible refine Below.al ?_ (by first | with_reducible exact Nat.le_refl _ | omega | (simp; done) | (simp; omega) | exact Nat.le_refl _) _ | with_reducible refine Below.setCell ?_ (by first | with_reducible exact Nat.le_refl _ | omega | (simp; done) | (simp; omega) | exact Nat.le_refl _) _ | assumption | exact Below.refl _ _ | refine below_drewN ?_ _ | refine Below.al ?_ (by first | with_reducible exact Nat.le_refl _ | omega | (simp; done) | (simp; omega) | exact Nat.le_refl _) _ | refine Below.setCell ?_ (by first | with_reducible exact Nat.le_refl _ | omega | (simp; done) | (simp; omega) | exact Nat.le_refl _) _)) (by first | with_reducible exact Nat.le_refl _ | omega | (simp; done) | (simp; omega) | exact Nat.le_refl _)) (by first | with_reducible exact Nat.le_refl _ | omega | (simp; done) | (simp; omega) | exact Nat.le_refl _)).mono ?_
      rintro e u7 ⟨aG, nG, cG, rfl, ho, hb⟩
      rw [HDar.out, HDrows.out] at ho; rw [HDar.out, HRB.out]
      have hc : Below u6.heap.size u6 u7 := Below.trans (by repeat (first | with_reducible assumption | with_reducible exact Below.refl _ _ | with_reducible refine below_drewN ?_ _ | with_reducible refine Below.al ?_ (by first | with_reducible exact Nat.le_refl _ | omega | (simp; done) | (simp; omega) | exact Nat.le_refl _) _ | with_reducible refine Below.setCell ?_ (by first | with_reducible exact Nat.le_refl _ | omega | (simp; done) | (simp; omega) | exact Nat.le_refl _) _ | assumption | exact Below.refl _ _ | refine below_drewN ?_ _ | refine Below.al ?_ (by first | with_reducible exact Nat.le_refl _ | omega | (simp; done) | (simp; omega) | exact Nat.le_refl _) _ | refine Below.setCell ?_ (by first | with_reducible exact Nat.le_refl _ | omega | (simp; done) | (simp; omega) | exact Nat.le_refl _) _)) (hb.mono (by first | with_reducible exact Nat.le_refl _ | omega | (simp; done) | (simp; omega) | exact Nat.le_refl _))
      have z7 : u6.heap.size ≤ u7.heap.size := hc.size
      replace B0c0 : u7.cell? ⟨w.heap.size, 0, none⟩ = some (.int .i64 ar0) := (by rw [(bcell hc).1 _ _ B0s]; exact B0c0)
      replace B0c1 : u7.cell? ⟨w.heap.size, 1, none⟩ = some (.slice a0 n0 c0) := (by rw [(bcell hc).1 _ _ B0s]; exact B0c1)
      replace B0s : w.heap.size < u7.heap.size := (by omega)
      replace B1c0 : u7.cell? ⟨u4.heap.size, 0, none⟩ = some (.int .i64 dar) := (by rw [(bcell hc).1 _ _ B1s]; exact B1c0)
      replace B1c1 : u7.cell? ⟨u4.heap.size, 1, none⟩ = some (.slice aW nW cW) := (by rw [(bcell hc).1 _ _ B1s]; exact B1c1)
      replace B1s : u4.heap.size < u7.heap.size := (by omega)
      replace B2c0 : u7.cell? ⟨u5.heap.size, 0, none⟩ = some (.int .i64 ar0) := (by rw [(bcell hc).1 _ _ B2s]; exact B2c0)
      replace B2c1 : u7.cell? ⟨u5.heap.size, 1, none⟩ = some (.slice ax0 nx0 cx0) := (by rw [(bcell hc).1 _ _ B2s]; exact B2c1)
      replace B2s : u5.heap.size < u7.heap.size := (by omega)
      replace DA0 : Hid (TrieA false (0) w.heap.size u7 ar0 a0 n0 c0 rows0) := hid (beTrie DA0.out hc (by omega))
      replace DA1 : Hid (IntsA false (0) w.heap.size u7 a1 n1 c1 xs1) := hid (beInts DA1.out hc (by omega))
      replace DW : Hid (TrieA false (u1.heap.size) u4.heap.size u7 dar aW nW cW drows) := hid (beTrie DW.out hc (by omega))
      replace Dx0 : Hid (TrieA true (u4.heap.size + 1) u5.heap.size u7 ar0 ax0 nx0 cx0 rows0) := hid (beTrie Dx0.out hc (by omega))
      replace Dx1 : Hid (IntsA true (u5.heap.size + 1) u6.heap.size u7 ax1 nx1 cx1 xs1) := hid (beInts Dx1.out hc (by omega))
      replace HW : Hid (Below w.heap.size w u7) := hid (Below.calm HW.out hc)
      have DG : Hid (TrieS (u6.heap.size) u7.heap.size u7 dar aG nG cG drows) := hid (wdTrieS ho (by first | with_reducible exact Nat.le_refl _ | omega | (simp; done) | (simp; omega) | exact Nat.le_refl _))
      clear ho hb hc
      go_wp2_with fail
      refine (eqK_Rel dar aG aW nG cG nW cW drows _ ((beTrieS (B := u7.heap.size) DG.out (by repeat (first | with_reducible assumption | with_reducible exact Below.refl _ _ | with_reducible refine below_drewN ?_ _ | with_reducible refine Below.al ?_ (by first | with_reducible exact Nat.le_refl _ | omega | (simp; done) | (simp; omega) | exact Nat.le_refl _) _ | with_reducible refine Below.setCell ?_ (by first | with_reducible exact Nat.le_refl _ | omega | (simp; done) | (simp; omega) | exact Nat.le_refl _) _ | assumption | exact Below.refl _ _ | refine below_drewN ?_ _ | refine Below.al ?_ (by first | with_reducible exact Nat.le_refl _ | omega | (simp; done) | (simp; omega) | exact Nat.le_refl _) _ | refine Below.setCell ?_ (by first | with_reducible exact Nat.le_refl _ | omega | (simp; done) | (simp; omega) | exact Nat.le_refl _) _)) (by first | with_reducible exact Nat.le_refl _ | omega | (simp; done) | (simp; omega) | exact Nat.le_refl _))).tr (by first | with_reducible exact Nat.le_refl _ | omega | (simp; done) | (simp; omega) | exact Nat.le_refl _) (beTrie (B := u7.heap.size) DW.out (by repeat (first | with_reducible assumption | with_reducible exact Below.refl _ _ | with_reducible refine below_drewN ?_ _ | with_reducible refine Below.al ?_ (by first | with_reducible exact Nat.le_refl _ | omega | (simp; done) | (simp; omega) | exact Nat.le_refl _) _ | with_reducible refine Below.setCell ?_ (by first | with_reducible exact Nat.le_refl _ | omega | (simp; done) | (simp; omega) | exact Nat.le_refl _) _ | assumption | exact Below.refl _ _ | refine below_drewN ?_ _ | refine Below.al ?_ (by first | with_reducible exact Nat.le_refl _ | omega | (simp; done) | (simp; omega) | exact Nat.le_refl _) _ | refine Below.setCell ?_ (by first | with_reducible exact Nat.le_refl _ | omega | (simp; done) | (simp; omega) | exact Nat.le_refl _) _)) (by first | with_reducible exact Nat.le_refl _ | omega | (simp; done) | (simp; omega) | exact Nat.le_refl _)) (by first | with_reducible exact Nat.le_refl _ | omega | (simp; done) | (simp; omega) | exact Nat.le_refl _)).mono ?_
      rintro e u8 ⟨rfl, hb⟩
      have hc : Below u7.heap.size u7 u8 := Below.trans (by repeat (first | with_reducible assumption | with_reducible exact Below.refl _ _ | with_reducible refine below_drewN ?_ _ | with_reducible refine Below.al ?_ (by first | with_reducible exact Nat.le_refl _ | omega | (simp; done) | (simp; omega) | exact Nat.le_refl _) _ | with_reducible refine Below.setCell ?_ (by first | with_reducible exact Nat.le_refl _ | omega | (simp; done) | (simp; omega) | exact Nat.le_refl _) _ | assumption | exact Below.refl _ _ | refine below_drewN ?_ _ | refine Below.al ?_ (by first | with_reducible exact Nat.le_refl _ | omega | (simp; done) | (simp; omega) | exact Nat.le_refl _) _ | refine Below.setCell ?_ (by first | with_reducible exact Nat.le_refl _ | omega | (simp; done) | (simp; omega) | exact Nat.le_refl _) _)) (hb.mono (by first | with_reducible exact Nat.le_refl _ | omega | (simp; done) | (simp; omega) | exact Nat.le_refl _))
      have z8 : u7.heap.size ≤ u8.heap.size := hc.size
      replace B0c0 : u8.cell? ⟨w.heap.size, 0, none⟩ = some (.int .i64 ar0) := (by rw [(bcell hc).1 _ _ B0s]; exact B0c0)
      replace B0c1 : u8.cell? ⟨w.heap.size, 1, none⟩ = some (.slice a0 n0 c0) := (by rw [(bcell hc).1 _ _ B0s]; exact B0c1)
      replace B0s : w.heap.size < u8.heap.size := (by omega)
      replace B1c0 : u8.cell? ⟨u4.heap.size, 0, none⟩ = some (.int .i64 dar) := (by rw [(bcell hc).1 _ _ B1s]; exact B1c0)
      replace B1c1 : u8.cell? ⟨u4.heap.size, 1, none⟩ = some (.slice aW nW cW) := (by rw [(bcell hc).1 _ _ B1s]; exact B1c1)
      replace B1s : u4.heap.size < u8.heap.size := (by omega)
      replace B2c0 : u8.cell? ⟨u5.heap.size, 0, none⟩ = some (.int .i64 ar0) := (by rw [(bcell hc).1 _ _ B2s]; exact B2c0)
      replace B2c1 : u8.cell? ⟨u5.heap.size, 1, none⟩ = some (.slice ax0 nx0 cx0) := (by rw [(bcell hc).1 _ _ B2s]; exact B2c1)
      replace B2s : u5.heap.size < u8.heap.size := (by omega)
      have B3c0 : u8.cell? ⟨u7.heap.size, 0, none⟩ = some (.int .i64 dar) := (by rw [(bcell hb).1 _ _ (by first | omega | (simp; done) | (simp; omega))]; first | with_reducible assumption | (go_simp; done) | assumption | (simp [World.cell?]; done))
      have B3c1 : u8.cell? ⟨u7.heap.size, 1, none⟩ = some (.slice aG nG cG) := (by rw [(bcell hb).1 _ _ (by first | omega | (simp; done) | (simp; omega))]; first | with_reducible assumption | (go_simp; done) | assumption | (simp [World.cell?]; done))
      have B3p : u7.heap.size < u8.heap.size := World.block_lt_of_cell? _ _ B3c0
      have B3s : u7.heap.size < u8.heap.size := B3p
      replace DA0 : Hid (TrieA false (0) w.heap.size u8 ar0 a0 n0 c0 rows0) := hid (beTrie DA0.out hc (by omega))
      replace DA1 : Hid (IntsA false (0) w.heap.size u8 a1 n1 c1 xs1) := hid (beInts DA1.out hc (by omega))
      replace DW : Hid (TrieA false (u1.heap.size) u4.heap.size u8 dar aW nW cW drows) := hid (beTrie DW.out hc (by omega))
      replace Dx0 : Hid (TrieA true (u4.heap.size + 1) u5.heap.size u8 ar0 ax0 nx0 cx0 rows0) := hid (beTrie Dx0.out hc (by omega))
      replace Dx1 : Hid (IntsA true (u5.heap.size + 1) u6.heap.size u8 ax1 nx1 cx1 xs1) := hid (beInts Dx1.out hc (by omega))
      replace DG : Hid (TrieS (u6.heap.size) u7.heap.size u8 dar aG nG cG drows) := hid (beTrieS DG.out hc (by omega))
      replace HW : Hid (Below w.heap.size w u8) := hid (Below.calm HW.out hc)
      clear hb hc
      go_wp2_with fail
      go_region_held3 (fun w' => w'.cell? ⟨w.heap.size, 0, none⟩ = some (.int .i64 ar0) ∧ w'.cell? ⟨w.heap.size, 1, none⟩ = some (.slice a0 n0 c0) ∧ w'.cell? ⟨u4.heap.size, 0, none⟩ = some (.int .i64 dar) ∧ w'.cell? ⟨u4.heap.size, 1, none⟩ = some (.slice aW nW cW) ∧ w'.cell? ⟨u5.heap.size, 0, none⟩ = some (.int .i64 ar0) ∧ w'.cell? ⟨u5.heap.size, 1, none⟩ = some (.slice ax0 nx0 cx0) ∧ w'.cell? ⟨u7.heap.size, 0, none⟩ = some (.int .i64 dar) ∧ w'.cell? ⟨u7.heap.size, 1, none⟩ = some (.slice aG nG cG)) (refine ⟨?_, ?_, ?_, ?_, ?_, ?_, ?_, ?_⟩ <;> assumption)
        (first | (go_at_call 19; refine (toK_Trie ar0 a0 n0 c0 rows0 _ (beTrie (B := u8.heap.size) DA0.out (by repeat (first | with_reducible assumption | with_reducible exact Below.refl _ _ | with_reducible refine below_drewN ?_ _ | with_reducible refine Below.al ?_ (by first | with_reducible exact Nat.le_refl _ | omega | (simp; done) | (simp; omega) | exact Nat.le_refl _) _ | with_reducible refine Below.setCell ?_ (by first | with_reducible exact Nat.le_refl _ | omega | (simp; done) | (simp; omega) | exact Nat.le_refl _) _ | assumption | exact Below.refl _ _ | refine below_drewN ?_ _ | refine Below.al ?_ (by first | with_reducible exact Nat.le_refl _ | omega | (simp; done) | (simp; omega) | exact Nat.le_refl _) _ | refine Below.setCell ?_ (by first | with_reducible exact Nat.le_refl _ | omega | (simp; done) | (simp; omega) | exact Nat.le_refl _) _)) (by first | with_reducible exact Nat.le_refl _ | omega | (simp; done) | (simp; omega) | exact Nat.le_refl _)) (by first | with_reducible exact Nat.le_refl _ | omega | (simp; done) | (simp; omega) | exact Nat.le_refl _) HS0.out).mono ?_; rintro e u9 ⟨ay0, ny0, cy0, rfl, ho, hb⟩; have hc : Below u8.heap.size u8 u9 := Below.trans (by repeat (first | with_reducible assumption | with_reducible exact Below.refl _ _ | with_reducible refine below_drewN ?_ _ | with_reducible refine Below.al ?_ (by first | with_reducible exact Nat.le_refl _ | omega | (simp; done) | (simp; omega) | exact Nat.le_refl _) _ | with_reducible refine Below.setCell ?_ (by first | with_reducible exact Nat.le_refl _ | omega | (simp; done) | (simp; omega) | exact Nat.le_refl _) _ | assumption | exact Below.refl _ _ | refine below_drewN ?_ _ | refine Below.al ?_ (by first | with_reducible exact Nat.le_refl _ | omega | (simp; done) | (simp; omega) | exact Nat.le_refl _) _ | refine Below.setCell ?_ (by first | with_reducible exact Nat.le_refl _ | omega | (simp; done) | (simp; omega) | exact Nat.le_refl _) _)) (hb.mono (by first | with_reducible exact Nat.le_refl _ | omega | (simp; done) | (simp; omega) | exact Nat.le_refl _)); have z9 : u8.heap.size ≤ u9.heap.size := hc.size; replace B0c0 : u9.cell? ⟨w.heap.size, 0, none⟩ = some (.int .i64 ar0) := (by rw [(bcell hc).1 _ _ B0s]; exact B0c0); replace B0c1 : u9.cell? ⟨w.heap.size, 1, none⟩ = some (.slice a0 n0 c0) := (by rw [(bcell hc).1 _ _ B0s]; exact B0c1); replace B0s : w.heap.size < u9.heap.size := (by omega); replace B1c0 : u9.cell? ⟨u4.heap.size, 0, none⟩ = some (.int .i64 dar) := (by rw [(bcell hc).1 _ _ B1s]; exact B1c0); replace B1c1 : u9.cell? ⟨u4.heap.size, 1, none⟩ = some (.slice aW nW cW) := (by rw [(bcell hc).1 _ _ B1s]; exact B1c1); replace B1s : u4.heap.size < u9.heap.size := (by omega); replace B2c0 : u9.cell? ⟨u5.heap.size, 0, none⟩ = some (.int .i64 ar0) := (by rw [(bcell hc).1 _ _ B2s]; exact B2c0); replace B2c1 : u9.cell? ⟨u5.heap.size, 1, none⟩ = some (.slice ax0 nx0 cx0) := (by rw [(bcell hc).1 _ _ B2s]; exact B2c1); replace B2s : u5.heap.size < u9.heap.size := (by omega); replace B3c0 : u9.cell? ⟨u7.heap.size, 0, none⟩ = some (.int .i64 dar) := (by rw [(bcell hc).1 _ _ B3s]; exact B3c0); replace B3c1 : u9.cell? ⟨u7.heap.size, 1, none⟩ = some (.slice aG nG cG) := (by rw [(bcell hc).1 _ _ B3s]; exact B3c1); replace B3s : u7.heap.size < u9.heap.size := (by omega); replace DA0 : Hid (TrieA false (0) w.heap.size u9 ar0 a0 n0 c0 rows0) := hid (beTrie DA0.out hc (by omega)); replace DA1 : Hid (IntsA false (0) w.heap.size u9 a1 n1 c1 xs1) := hid (beInts DA1.out hc (by omega)); replace DW : Hid (TrieA false (u1.heap.size) u4.heap.size u9 dar aW nW cW drows) := hid (beTrie DW.out hc (by omega)); replace Dx0 : Hid (TrieA true (u4.heap.size + 1) u5.heap.size u9 ar0 ax0 nx0 cx0 rows0) := hid (beTrie Dx0.out hc (by omega)); replace Dx1 : Hid (IntsA true (u5.heap.size + 1) u6.heap.size u9 ax1 nx1 cx1 xs1) := hid (beInts Dx1.out hc (by omega)); replace DG : Hid (TrieS (u6.heap.size) u7.heap.size u9 dar aG nG cG drows) := hid (beTrieS DG.out hc (by omega)); replace HW : Hid (Below w.heap.size w u9) := hid (Below.calm HW.out hc); have Dy0 : Hid (TrieA true (u8.heap.size) u9.heap.size u9 ar0 ay0 ny0 cy0 rows0) := hid (wdTrie ho (by first | with_reducible exact Nat.le_refl _ | omega | (simp; done) | (simp; omega) | exact Nat.le_refl _)); clear ho hb hc) | (go_at_call 10; refine (eqK_Trie ar0 ax0 ay0 nx0 cx0 ny0 cy0 rows0 _ (beTrie (B := u9.heap.size) Dx0.out (by repeat (first | with_reducible assumption | with_reducible exact Below.refl _ _ | with_reducible refine below_drewN ?_ _ | with_reducible refine Below.al ?_ (by first | with_reducible exact Nat.le_refl _ | omega | (simp; done) | (simp; omega) | exact Nat.le_refl _) _ | with_reducible refine Below.setCell ?_ (by first | with_reducible exact Nat.le_refl _ | omega | (simp; done) | (simp; omega) | exact Nat.le_refl _) _ | assumption | exact Below.refl _ _ | refine below_drewN ?_ _ | refine Below.al ?_ (by first | with_reducible exact Nat.le_refl _ | omega | (simp; done) | (simp; omega) | exact Nat.le_refl _) _ | refine Below.setCell ?_ (by first | with_reducible exact Nat.le_refl _ | omega | (simp; done) | (simp; omega) | exact Nat.le_refl _) _)) (by first | with_reducible exact Nat.le_refl _ | omega | (simp; done) | (simp; omega) | exact Nat.le_refl _)) (by first | with_reducible exact Nat.le_refl _ | omega | (simp; done) | (simp; omega) | exact Nat.le_refl _) (beTrie (B := u9.heap.size) Dy0.out (by repeat (first | with_reducible assumption | with_reducible exact Below.refl _ _ | with_reducible refine below_drewN ?_ _ | with_reducible refine Below.al ?_ (by first | with_reducible exact Nat.le_refl _ | omega | (simp; done) | (simp; omega) | exact Nat.le_refl _) _ | with_reducible refine Below.setCell ?_ (by first | with_reducible exact Nat.le_refl _ | omega | (simp; done) | (simp; omega) | exact Nat.le_refl _) _ | assumption | exact Below.refl _ _ | refine below_drewN ?_ _ | refine Below.al ?_ (by first | with_reducible exact Nat.le_refl _ | omega | (simp; done) | (simp; omega) | exact Nat.le_refl _) _ | refine Below.setCell ?_ (by first | with_reducible exact Nat.le_refl _ | omega | (simp; done) | (simp; omega) | exact Nat.le_refl _) _)) (by first | with_reducible exact Nat.le_refl _ | omega | (simp; done) | (simp; omega) | exact Nat.le_refl _)) (by first | with_reducible exact Nat.le_refl _ | omega | (simp; done) | (simp; omega) | exact Nat.le_refl _)).mono ?_; rintro e u10 ⟨rfl, hb⟩; have hc : Below u9.heap.size u9 u10 := Below.trans (by repeat (first | with_reducible assumption | with_reducible exact Below.refl _ _ | with_reducible refine below_drewN ?_ _ | with_reducible refine Below.al ?_ (by first | with_reducible exact Nat.le_refl _ | omega | (simp; done) | (simp; omega) | exact Nat.le_refl _) _ | with_reducible refine Below.setCell ?_ (by first | with_reducible exact Nat.le_refl _ | omega | (simp; done) | (simp; omega) | exact Nat.le_refl _) _ | assumption | exact Below.refl _ _ | refine below_drewN ?_ _ | refine Below.al ?_ (by first | with_reducible exact Nat.le_refl _ | omega | (simp; done) | (simp; omega) | exact Nat.le_refl _) _ | refine Below.setCell ?_ (by first | with_reducible exact Nat.le_refl _ | omega | (simp; done) | (simp; omega) | exact Nat.le_refl _) _)) (hb.mono (by first | with_reducible exact Nat.le_refl _ | omega | (simp; done) | (simp; omega) | exact Nat.le_refl _)); have z10 : u9.heap.size ≤ u10.heap.size := hc.size; replace B0c0 : u10.cell? ⟨w.heap.size, 0, none⟩ = some (.int .i64 ar0) := (by rw [(bcell hc).1 _ _ B0s]; exact B0c0); replace B0c1 : u10.cell? ⟨w.heap.size, 1, none⟩ = some (.slice a0 n0 c0) := (by rw [(bcell hc).1 _ _ B0s]; exact B0c1); replace B0s : w.heap.size < u10.heap.size := (by omega); replace B1c0 : u10.cell? ⟨u4.heap.size, 0, none⟩ = some (.int .i64 dar) := (by rw [(bcell hc).1 _ _ B1s]; exact B1c0); replace B1c1 : u10.cell? ⟨u4.heap.size, 1, none⟩ = some (.slice aW nW cW) := (by rw [(bcell hc).1 _ _ B1s]; exact B1c1); replace B1s : u4.heap.size < u10.heap.size := (by omega); replace B2c0 : u10.cell? ⟨u5.heap.size, 0, none⟩ = some (.int .i64 ar0) := (by rw [(bcell hc).1 _ _ B2s]; exact B2c0); replace B2c1 : u10.cell? ⟨u5.heap.size, 1, none⟩ = some (.slice ax0 nx0 cx0) := (by rw [(bcell hc).1 _ _ B2s]; exact B2c1); replace B2s : u5.heap.size < u10.heap.size := (by omega); replace B3c0 : u10.cell? ⟨u7.heap.size, 0, none⟩ = some (.int .i64 dar) := (by rw [(bcell hc).1 _ _ B3s]; exact B3c0); replace B3c1 : u10.cell? ⟨u7.heap.size, 1, none⟩ = some (.slice aG nG cG) := (by rw [(bcell hc).1 _ _ B3s]; exact B3c1); replace B3s : u7.heap.size < u10.heap.size := (by omega); replace DA0 : Hid (TrieA false (0) w.heap.size u10 ar0 a0 n0 c0 rows0) := hid (beTrie DA0.out hc (by omega)); replace DA1 : Hid (IntsA false (0) w.heap.size u10 a1 n1 c1 xs1) := hid (beInts DA1.out hc (by omega)); replace DW : Hid (TrieA false (u1.heap.size) u4.heap.size u10 dar aW nW cW drows) := hid (beTrie DW.out hc (by omega)); replace Dx0 : Hid (TrieA true (u4.heap.size + 1) u5.heap.size u10 ar0 ax0 nx0 cx0 rows0) := hid (beTrie Dx0.out hc (by omega)); replace Dx1 : Hid (IntsA true (u5.heap.size + 1) u6.heap.size u10 ax1 nx1 cx1 xs1) := hid (beInts Dx1.out hc (by omega)); replace DG : Hid (TrieS (u6.heap.size) u7.heap.size u10 dar aG nG cG drows) := hid (beTrieS DG.out hc (by omega)); replace HW : Hid (Below w.heap.size w u10) := hid (Below.calm HW.out hc); clear hb hc))
      go_wp2_with fail
      refine (toK_Ints a1 n1 c1 xs1 _ (beInts (B := u10.heap.size) DA1.out (by repeat (first | with_reducible assumption | with_reducible exact Below.refl _ _ | with_reducible refine below_drewN ?_ _ | with_reducible refine Below.al ?_ (by first | with_reducible exact Nat.le_refl _ | omega | (simp; done) | (simp; omega) | exact Nat.le_refl _) _ | with_reducible refine Below.setCell ?_ (by first | with_reducible exact Nat.le_refl _ | omega | (simp; done) | (simp; omega) | exact Nat.le_refl _) _ | assumption | exact Below.refl _ _ | refine below_drewN ?_ _ | refine Below.al ?_ (by first | with_reducible exact Nat.le_refl _ | omega | (simp; done) | (simp; omega) | exact Nat.le_refl _) _ | refine Below.setCell ?_ (by first | with_reducible exact Nat.le_refl _ | omega | (simp; done) | (simp; omega) | exact Nat.le_refl _) _)) (by first | with_reducible exact Nat.le_refl _ | omega | (simp; done) | (simp; omega) | exact Nat.le_refl _)) (by first | with_reducible exact Nat.le_refl _ | omega | (simp; done) | (simp; omega) | exact Nat.le_refl _) HS1.out).mono ?_
      rintro e u11 ⟨ay1, ny1, cy1, rfl, ho, hb⟩
      have hc : Below u10.heap.size u10 u11 := Below.trans (by repeat (first | with_reducible assumption | with_reducible exact Below.refl _ _ | with_reducible refine below_drewN ?_ _ | with_reducible refine Below.al ?_ (by first | with_reducible exact Nat.le_refl _ | omega | (simp; done) | (simp; omega) | exact Nat.le_refl _) _ | with_reducible refine Below.setCell ?_ (by first | with_reducible exact Nat.le_refl _ | omega | (simp; done) | (simp; omega) | exact Nat.le_refl _) _ | assumption | exact Below.refl _ _ | refine below_drewN ?_ _ | refine Below.al ?_ (by first | with_reducible exact Nat.le_refl _ | omega | (simp; done) | (simp; omega) | exact Nat.le_refl _) _ | refine Below.setCell ?_ (by first | with_reducible exact Nat.le_refl _ | omega | (simp; done) | (simp; omega) | exact Nat.le_refl _) _)) (hb.mono (by first | with_reducible exact Nat.le_refl _ | omega | (simp; done) | (simp; omega) | exact Nat.le_refl _))
      have z11 : u10.heap.size ≤ u11.heap.size := hc.size
      replace B0c0 : u11.cell? ⟨w.heap.size, 0, none⟩ = some (.int .i64 ar0) := (by rw [(bcell hc).1 _ _ B0s]; exact B0c0)
      replace B0c1 : u11.cell? ⟨w.heap.size, 1, none⟩ = some (.slice a0 n0 c0) := (by rw [(bcell hc).1 _ _ B0s]; exact B0c1)
      replace B0s : w.heap.size < u11.heap.size := (by omega)
      replace B1c0 : u11.cell? ⟨u4.heap.size, 0, none⟩ = some (.int .i64 dar) := (by rw [(bcell hc).1 _ _ B1s]; exact B1c0)
      replace B1c1 : u11.cell? ⟨u4.heap.size, 1, none⟩ = some (.slice aW nW cW) := (by rw [(bcell hc).1 _ _ B1s]; exact B1c1)
      replace B1s : u4.heap.size < u11.heap.size := (by omega)
      replace B2c0 : u11.cell? ⟨u5.heap.size, 0, none⟩ = some (.int .i64 ar0) := (by rw [(bcell hc).1 _ _ B2s]; exact B2c0)
      replace B2c1 : u11.cell? ⟨u5.heap.size, 1, none⟩ = some (.slice ax0 nx0 cx0) := (by rw [(bcell hc).1 _ _ B2s]; exact B2c1)
      replace B2s : u5.heap.size < u11.heap.size := (by omega)
      replace B3c0 : u11.cell? ⟨u7.heap.size, 0, none⟩ = some (.int .i64 dar) := (by rw [(bcell hc).1 _ _ B3s]; exact B3c0)
      replace B3c1 : u11.cell? ⟨u7.heap.size, 1, none⟩ = some (.slice aG nG cG) := (by rw [(bcell hc).1 _ _ B3s]; exact B3c1)
      replace B3s : u7.heap.size < u11.heap.size := (by omega)
      replace DA0 : Hid (TrieA false (0) w.heap.size u11 ar0 a0 n0 c0 rows0) := hid (beTrie DA0.out hc (by omega))
      replace DA1 : Hid (IntsA false (0) w.heap.size u11 a1 n1 c1 xs1) := hid (beInts DA1.out hc (by omega))
      replace DW : Hid (TrieA false (u1.heap.size) u4.heap.size u11 dar aW nW cW drows) := hid (beTrie DW.out hc (by omega))
      replace Dx0 : Hid (TrieA true (u4.heap.size + 1) u5.heap.size u11 ar0 ax0 nx0 cx0 rows0) := hid (beTrie Dx0.out hc (by omega))
      replace Dx1 : Hid (IntsA true (u5.heap.size + 1) u6.heap.size u11 ax1 nx1 cx1 xs1) := hid (beInts Dx1.out hc (by omega))
      replace DG : Hid (TrieS (u6.heap.size) u7.heap.size u11 dar aG nG cG drows) := hid (beTrieS DG.out hc (by omega))
      replace HW : Hid (Below w.heap.size w u11) := hid (Below.calm HW.out hc)
      have Dy1 : Hid (IntsA true (u10.heap.size) u11.heap.size u11 ay1 ny1 cy1 xs1) := hid (wdInts ho (by first | with_reducible exact Nat.le_refl _ | omega | (simp; done) | (simp; omega) | exact Nat.le_refl _))
      clear ho hb hc
      go_wp2_with fail
      refine (eqK_Ints ax1 ay1 nx1 cx1 ny1 cy1 xs1 _ (beInts (B := u11.heap.size) Dx1.out (by repeat (first | with_reducible assumption | with_reducible exact Below.refl _ _ | with_reducible refine below_drewN ?_ _ | with_reducible refine Below.al ?_ (by first | with_reducible exact Nat.le_refl _ | omega | (simp; done) | (simp; omega) | exact Nat.le_refl _) _ | with_reducible refine Below.setCell ?_ (by first | with_reducible exact Nat.le_refl _ | omega | (simp; done) | (simp; omega) | exact Nat.le_refl _) _ | assumption | exact Below.refl _ _ | refine below_drewN ?_ _ | refine Below.al ?_ (by first | with_reducible exact Nat.le_refl _ | omega | (simp; done) | (simp; omega) | exact Nat.le_refl _) _ | refine Below.setCell ?_ (by first | with_reducible exact Nat.le_refl _ | omega | (simp; done) | (simp; omega) | exact Nat.le_refl _) _)) (by first | with_reducible exact Nat.le_refl _ | omega | (simp; done) | (simp; omega) | exact Nat.le_refl _)) (beInts (B := u11.heap.size) Dy1.out (by repeat (first | with_reducible assumption | with_reducible exact Below.refl _ _ | with_reducible refine below_drewN ?_ _ | with_reducible refine Below.al ?_ (by first | with_reducible exact Nat.le_refl _ | omega | (simp; done) | (simp; omega) | exact Nat.le_refl _) _ | with_reducible refine Below.setCell ?_ (by first | with_reducible exact Nat.le_refl _ | omega | (simp; done) | (simp; omega) | exact Nat.le_refl _) _ | assumption | exact Below.refl _ _ | refine below_drewN ?_ _ | refine Below.al ?_ (by first | with_reducible exact Nat.le_refl _ | omega | (simp; done) | (simp; omega) | exact Nat.le_refl _) _ | refine Below.setCell ?_ (by first | with_reducible exact Nat.le_refl _ | omega | (simp; done) | (simp; omega) | exact Nat.le_refl _) _)) (by first | with_reducible exact Nat.le_refl _ | omega | (simp; done) | (simp; omega) | exact Nat.le_refl _))).mono ?_
      rintro e u12 hg; obtain ⟨rfl, hb⟩ := Gives.leaves hg; clear hg
      have hc : Below u11.heap.size u11 u12 := Below.trans (by repeat (first | with_reducible assumption | with_reducible exact Below.refl _ _ | with_reducible refine below_drewN ?_ _ | with_reducible refine Below.al ?_ (by first | with_reducible exact Nat.le_refl _ | omega | (simp; done) | (simp; omega) | exact Nat.le_refl _) _ | with_reducible refine Below.setCell ?_ (by first | with_reducible exact Nat.le_refl _ | omega | (simp; done) | (simp; omega) | exact Nat.le_refl _) _ | assumption | exact Below.refl _ _ | refine below_drewN ?_ _ | refine Below.al ?_ (by first | with_reducible exact Nat.le_refl _ | omega | (simp; done) | (simp; omega) | exact Nat.le_refl _) _ | refine Below.setCell ?_ (by first | with_reducible exact Nat.le_refl _ | omega | (simp; done) | (simp; omega) | exact Nat.le_refl _) _)) (hb.mono (by first | with_reducible exact Nat.le_refl _ | omega | (simp; done) | (simp; omega) | exact Nat.le_refl _))
      have z12 : u11.heap.size ≤ u12.heap.size := hc.size
      replace B0c0 : u12.cell? ⟨w.heap.size, 0, none⟩ = some (.int .i64 ar0) := (by rw [(bcell hc).1 _ _ B0s]; exact B0c0)
      replace B0c1 : u12.cell? ⟨w.heap.size, 1, none⟩ = some (.slice a0 n0 c0) := (by rw [(bcell hc).1 _ _ B0s]; exact B0c1)
      replace B0s : w.heap.size < u12.heap.size := (by omega)
      replace B1c0 : u12.cell? ⟨u4.heap.size, 0, none⟩ = some (.int .i64 dar) := (by rw [(bcell hc).1 _ _ B1s]; exact B1c0)
      replace B1c1 : u12.cell? ⟨u4.heap.size, 1, none⟩ = some (.slice aW nW cW) := (by rw [(bcell hc).1 _ _ B1s]; exact B1c1)
      replace B1s : u4.heap.size < u12.heap.size := (by omega)
      replace B2c0 : u12.cell? ⟨u5.heap.size, 0, none⟩ = some (.int .i64 ar0) := (by rw [(bcell hc).1 _ _ B2s]; exact B2c0)
      replace B2c1 : u12.cell? ⟨u5.heap.size, 1, none⟩ = some (.slice ax0 nx0 cx0) := (by rw [(bcell hc).1 _ _ B2s]; exact B2c1)
      replace B2s : u5.heap.size < u12.heap.size := (by omega)
      replace B3c0 : u12.cell? ⟨u7.heap.size, 0, none⟩ = some (.int .i64 dar) := (by rw [(bcell hc).1 _ _ B3s]; exact B3c0)
      replace B3c1 : u12.cell? ⟨u7.heap.size, 1, none⟩ = some (.slice aG nG cG) := (by rw [(bcell hc).1 _ _ B3s]; exact B3c1)
      replace B3s : u7.heap.size < u12.heap.size := (by omega)
      replace DA0 : Hid (TrieA false (0) w.heap.size u12 ar0 a0 n0 c0 rows0) := hid (beTrie DA0.out hc (by omega))
      replace DA1 : Hid (IntsA false (0) w.heap.size u12 a1 n1 c1 xs1) := hid (beInts DA1.out hc (by omega))
      replace DW : Hid (TrieA false (u1.heap.size) u4.heap.size u12 dar aW nW cW drows) := hid (beTrie DW.out hc (by omega))
      replace Dx0 : Hid (TrieA true (u4.heap.size + 1) u5.heap.size u12 ar0 ax0 nx0 cx0 rows0) := hid (beTrie Dx0.out hc (by omega))
      replace Dx1 : Hid (IntsA true (u5.heap.size + 1) u6.heap.size u12 ax1 nx1 cx1 xs1) := hid (beInts Dx1.out hc (by omega))
      replace DG : Hid (TrieS (u6.heap.size) u7.heap.size u12 dar aG nG cG drows) := hid (beTrieS DG.out hc (by omega))
      replace Dy1 : Hid (IntsA true (u10.heap.size) u11.heap.size u12 ay1 ny1 cy1 xs1) := hid (beInts Dy1.out hc (by omega))
      replace HW : Hid (Below w.heap.size w u12) := hid (Below.calm HW.out hc)
      clear hb hc
      have hkb : (0 : Int) ≤ 1 ∧ (1 : Int) ≤ 1 := by omega
      have hcl0 : lens rows0 rows0.length ≤ 1048576 := by have h1 := HS0.out; have h2 : lens rows0 rows0.length ≤ rowsSz rows0 := (by unfold rowsSz; omega); omega
      obtain ⟨k1, hk1⟩ : ∃ k : Int, k = 1 + (lens rows0 rows0.length : Nat) := ⟨_, rfl⟩
      have hkb1 : 0 ≤ k1 ∧ k1 ≤ 1048577 := by omega
      have HK1 := hid hk1; clear hk1 hcl0
      go_wp2_with fail
      refine (markK_Trie ar0 ax0 nx0 cx0 rows0 1 _ (beTrie (B := u12.heap.size) Dx0.out (by repeat (first | with_reducible assumption | with_reducible exact Below.refl _ _ | with_reducible refine below_drewN ?_ _ | with_reducible refine Below.al ?_ (by first | with_reducible exact Nat.le_refl _ | omega | (simp; done) | (simp; omega) | exact Nat.le_refl _) _ | with_reducible refine Below.setCell ?_ (by first | with_reducible exact Nat.le_refl _ | omega | (simp; done) | (simp; omega) | exact Nat.le_refl _) _ | assumption | exact Below.refl _ _ | refine below_drewN ?_ _ | refine Below.al ?_ (by first | with_reducible exact Nat.le_refl _ | omega | (simp; done) | (simp; omega) | exact Nat.le_refl _) _ | refine Below.setCell ?_ (by first | with_reducible exact Nat.le_refl _ | omega | (simp; done) | (simp; omega) | exact Nat.le_refl _) _)) (by first | with_reducible exact Nat.le_refl _ | omega | (simp; done) | (simp; omega) | exact Nat.le_refl _)) (by first | with_reducible exact Nat.le_refl _ | omega | (simp; done) | (simp; omega) | exact Nat.le_refl _) (by omega) (by omega) HS0.out).mono ?_
      rintro e u13 ⟨rfl, hm⟩
      rw [← HK1.out]
      have z13 : u12.heap.size ≤ u13.heap.size := hm.size
      replace B0c0 : u13.cell? ⟨w.heap.size, 0, none⟩ = some (.int .i64 ar0) := (by rw [boxG hm _ B0s (by omega)]; exact B0c0)
      replace B0c1 : u13.cell? ⟨w.heap.size, 1, none⟩ = some (.slice a0 n0 c0) := (by rw [boxG hm _ B0s (by omega)]; exact B0c1)
      replace B0s : w.heap.size < u13.heap.size := (by omega)
      replace B1c0 : u13.cell? ⟨u4.heap.size, 0, none⟩ = some (.int .i64 dar) := (by rw [boxG hm _ B1s (by omega)]; exact B1c0)
      replace B1c1 : u13.cell? ⟨u4.heap.size, 1, none⟩ = some (.slice aW nW cW) := (by rw [boxG hm _ B1s (by omega)]; exact B1c1)
      replace B1s : u4.heap.size < u13.heap.size := (by omega)
      replace B2c0 : u13.cell? ⟨u5.heap.size, 0, none⟩ = some (.int .i64 ar0) := (by rw [boxG hm _ B2s (by omega)]; exact B2c0)
      replace B2c1 : u13.cell? ⟨u5.heap.size, 1, none⟩ = some (.slice ax0 nx0 cx0) := (by rw [boxG hm _ B2s (by omega)]; exact B2c1)
      replace B2s : u5.heap.size < u13.heap.size := (by omega)
      replace B3c0 : u13.cell? ⟨u7.heap.size, 0, none⟩ = some (.int .i64 dar) := (by rw [boxG hm _ B3s (by omega)]; exact B3c0)
      replace B3c1 : u13.cell? ⟨u7.heap.size, 1, none⟩ = some (.slice aG nG cG) := (by rw [boxG hm _ B3s (by omega)]; exact B3c1)
      replace B3s : u7.heap.size < u13.heap.size := (by omega)
      replace DA0 : Hid (TrieA false (0) w.heap.size u13 ar0 a0 n0 c0 rows0) := hid (kpTrie DA0.out (hm.keeps (by omega) (by omega)))
      replace DA1 : Hid (IntsA false (0) w.heap.size u13 a1 n1 c1 xs1) := hid (kpInts DA1.out (hm.keeps (by omega) (by omega)))
      replace DW : Hid (TrieA false (u1.heap.size) u4.heap.size u13 dar aW nW cW drows) := hid (kpTrie DW.out (hm.keeps (by omega) (by omega)))
      replace Dx1 : Hid (IntsA true (u5.heap.size + 1) u6.heap.size u13 ax1 nx1 cx1 xs1) := hid (kpInts Dx1.out (hm.keeps (by omega) (by omega)))
      replace DG : Hid (TrieS (u6.heap.size) u7.heap.size u13 dar aG nG cG drows) := hid (kpTrieS DG.out (hm.keeps (by omega) (by omega)))
      replace HW : Hid (Below w.heap.size w u13) := hid (HW.out.trans (hm.below (by omega) (by omega)))
      clear hm
      have hcl1 : xs1.length ≤ 1048576 := by have h1 := HS1.out; have h2 : xs1.length ≤ xs1.length := (Nat.le_refl _); omega
      obtain ⟨k2, hk2⟩ : ∃ k : Int, k = k1 + (xs1.length : Nat) := ⟨_, rfl⟩
      have hkb2 : 0 ≤ k2 ∧ k2 ≤ 2097153 := by omega
      have HK2 := hid hk2; clear hk2 hcl1
      go_wp2_with fail
      refine (markK_Ints ax1 nx1 cx1 xs1 k1 _ (beInts (B := u13.heap.size) Dx1.out (by repeat (first | with_reducible assumption | with_reducible exact Below.refl _ _ | with_reducible refine below_drewN ?_ _ | with_reducible refine Below.al ?_ (by first | with_reducible exact Nat.le_refl _ | omega | (simp; done) | (simp; omega) | exact Nat.le_refl _) _ | with_reducible refine Below.setCell ?_ (by first | with_reducible exact Nat.le_refl _ | omega | (simp; done) | (simp; omega) | exact Nat.le_refl _) _ | assumption | exact Below.refl _ _ | refine below_drewN ?_ _ | refine Below.al ?_ (by first | with_reducible exact Nat.le_refl _ | omega | (simp; done) | (simp; omega) | exact Nat.le_refl _) _ | refine Below.setCell ?_ (by first | with_reducible exact Nat.le_refl _ | omega | (simp; done) | (simp; omega) | exact Nat.le_refl _) _)) (by first | with_reducible exact Nat.le_refl _ | omega | (simp; done) | (simp; omega) | exact Nat.le_refl _)) (by omega) (by omega) HS1.out).mono ?_
      rintro e u14 ⟨rfl, hm⟩
      rw [← HK2.out]
      have z14 : u13.heap.size ≤ u14.heap.size := hm.size
      replace B0c0 : u14.cell? ⟨w.heap.size, 0, none⟩ = some (.int .i64 ar0) := (by rw [boxG hm _ B0s (by omega)]; exact B0c0)
      replace B0c1 : u14.cell? ⟨w.heap.size, 1, none⟩ = some (.slice a0 n0 c0) := (by rw [boxG hm _ B0s (by omega)]; exact B0c1)
      replace B0s : w.heap.size < u14.heap.size := (by omega)
      replace B1c0 : u14.cell? ⟨u4.heap.size, 0, none⟩ = some (.int .i64 dar) := (by rw [boxG hm _ B1s (by omega)]; exact B1c0)
      replace B1c1 : u14.cell? ⟨u4.heap.size, 1, none⟩ = some (.slice aW nW cW) := (by rw [boxG hm _ B1s (by omega)]; exact B1c1)
      replace B1s : u4.heap.size < u14.heap.size := (by omega)
      replace B2c0 : u14.cell? ⟨u5.heap.size, 0, none⟩ = some (.int .i64 ar0) := (by rw [boxG hm _ B2s (by omega)]; exact B2c0)
      replace B2c1 : u14.cell? ⟨u5.heap.size, 1, none⟩ = some (.slice ax0 nx0 cx0) := (by rw [boxG hm _ B2s (by omega)]; exact B2c1)
      replace B2s : u5.heap.size < u14.heap.size := (by omega)
      replace B3c0 : u14.cell? ⟨u7.heap.size, 0, none⟩ = some (.int .i64 dar) := (by rw [boxG hm _ B3s (by omega)]; exact B3c0)
      replace B3c1 : u14.cell? ⟨u7.heap.size, 1, none⟩ = some (.slice aG nG cG) := (by rw [boxG hm _ B3s (by omega)]; exact B3c1)
      replace B3s : u7.heap.size < u14.heap.size := (by omega)
      replace DA0 : Hid (TrieA false (0) w.heap.size u14 ar0 a0 n0 c0 rows0) := hid (kpTrie DA0.out (hm.keeps (by omega) (by omega)))
      replace DA1 : Hid (IntsA false (0) w.heap.size u14 a1 n1 c1 xs1) := hid (kpInts DA1.out (hm.keeps (by omega) (by omega)))
      replace DW : Hid (TrieA false (u1.heap.size) u4.heap.size u14 dar aW nW cW drows) := hid (kpTrie DW.out (hm.keeps (by omega) (by omega)))
      replace DG : Hid (TrieS (u6.heap.size) u7.heap.size u14 dar aG nG cG drows) := hid (kpTrieS DG.out (hm.keeps (by omega) (by omega)))
      replace HW : Hid (Below w.heap.size w u14) := hid (HW.out.trans (hm.below (by omega) (by omega)))
      clear hm
      go_wp2_with fail
      refine (eqK_Rel dar aG aW nG cG nW cW drows _ ((beTrieS (B := u14.heap.size) DG.out (by repeat (first | with_reducible assumption | with_reducible exact Below.refl _ _ | with_reducible refine below_drewN ?_ _ | with_reducible refine Below.al ?_ (by first | with_reducible exact Nat.le_refl _ | omega | (simp; done) | (simp; omega) | exact Nat.le_refl _) _ | with_reducible refine Below.setCell ?_ (by first | with_reducible exact Nat.le_refl _ | omega | (simp; done) | (simp; omega) | exact Nat.le_refl _) _ | assumption | exact Below.refl _ _ | refine below_drewN ?_ _ | refine Below.al ?_ (by first | with_reducible exact Nat.le_refl _ | omega | (simp; done) | (simp; omega) | exact Nat.le_refl _) _ | refine Below.setCell ?_ (by first | with_reducible exact Nat.le_refl _ | omega | (simp; done) | (simp; omega) | exact Nat.le_refl _) _)) (by first | with_reducible exact Nat.le_refl _ | omega | (simp; done) | (simp; omega) | exact Nat.le_refl _))).tr (by first | with_reducible exact Nat.le_refl _ | omega | (simp; done) | (simp; omega) | exact Nat.le_refl _) (beTrie (B := u14.heap.size) DW.out (by repeat (first | with_reducible assumption | with_reducible exact Below.refl _ _ | with_reducible refine below_drewN ?_ _ | with_reducible refine Below.al ?_ (by first | with_reducible exact Nat.le_refl _ | omega | (simp; done) | (simp; omega) | exact Nat.le_refl _) _ | with_reducible refine Below.setCell ?_ (by first | with_reducible exact Nat.le_refl _ | omega | (simp; done) | (simp; omega) | exact Nat.le_refl _) _ | assumption | exact Below.refl _ _ | refine below_drewN ?_ _ | refine Below.al ?_ (by first | with_reducible exact Nat.le_refl _ | omega | (simp; done) | (simp; omega) | exact Nat.le_refl _) _ | refine Below.setCell ?_ (by first | with_reducible exact Nat.le_refl _ | omega | (simp; done) | (simp; omega) | exact Nat.le_refl _) _)) (by first | with_reducible exact Nat.le_refl _ | omega | (simp; done) | (simp; omega) | exact Nat.le_refl _)) (by first | with_reducible exact Nat.le_refl _ | omega | (simp; done) | (simp; omega) | exact Nat.le_refl _)).mono ?_
      rintro e u15 ⟨rfl, hb⟩
      have hc : Below u14.heap.size u14 u15 := Below.trans (by repeat (first | with_reducible assumption | with_reducible exact Below.refl _ _ | with_reducible refine below_drewN ?_ _ | with_reducible refine Below.al ?_ (by first | with_reducible exact Nat.le_refl _ | omega | (simp; done) | (simp; omega) | exact Nat.le_refl _) _ | with_reducible refine Below.setCell ?_ (by first | with_reducible exact Nat.le_refl _ | omega | (simp; done) | (simp; omega) | exact Nat.le_refl _) _ | assumption | exact Below.refl _ _ | refine below_drewN ?_ _ | refine Below.al ?_ (by first | with_reducible exact Nat.le_refl _ | omega | (simp; done) | (simp; omega) | exact Nat.le_refl _) _ | refine Below.setCell ?_ (by first | with_reducible exact Nat.le_refl _ | omega | (simp; done) | (simp; omega) | exact Nat.le_refl _) _)) (hb.mono (by first | with_reducible exact Nat.le_refl _ | omega | (simp; done) | (simp; omega) | exact Nat.le_refl _))
      have z15 : u14.heap.size ≤ u15.heap.size := hc.size
      replace B0c0 : u15.cell? ⟨w.heap.size, 0, none⟩ = some (.int .i64 ar0) := (by rw [(bcell hc).1 _ _ B0s]; exact B0c0)
      replace B0c1 : u15.cell? ⟨w.heap.size, 1, none⟩ = some (.slice a0 n0 c0) := (by rw [(bcell hc).1 _ _ B0s]; exact B0c1)
      replace B0s : w.heap.size < u15.heap.size := (by omega)
      replace B1c0 : u15.cell? ⟨u4.heap.size, 0, none⟩ = some (.int .i64 dar) := (by rw [(bcell hc).1 _ _ B1s]; exact B1c0)
      replace B1c1 : u15.cell? ⟨u4.heap.size, 1, none⟩ = some (.slice aW nW cW) := (by rw [(bcell hc).1 _ _ B1s]; exact B1c1)
      replace B1s : u4.heap.size < u15.heap.size := (by omega)
      replace B2c0 : u15.cell? ⟨u5.heap.size, 0, none⟩ = some (.int .i64 ar0) := (by rw [(bcell hc).1 _ _ B2s]; exact B2c0)
      replace B2c1 : u15.cell? ⟨u5.heap.size, 1, none⟩ = some (.slice ax0 nx0 cx0) := (by rw [(bcell hc).1 _ _ B2s]; exact B2c1)
      replace B2s : u5.heap.size < u15.heap.size := (by omega)
      replace B3c0 : u15.cell? ⟨u7.heap.size, 0, none⟩ = some (.int .i64 dar) := (by rw [(bcell hc).1 _ _ B3s]; exact B3c0)
      replace B3c1 : u15.cell? ⟨u7.heap.size, 1, none⟩ = some (.slice aG nG cG) := (by rw [(bcell hc).1 _ _ B3s]; exact B3c1)
      replace B3s : u7.heap.size < u15.heap.size := (by omega)
      replace DA0 : Hid (TrieA false (0) w.heap.size u15 ar0 a0 n0 c0 rows0) := hid (beTrie DA0.out hc (by omega))
      replace DA1 : Hid (IntsA false (0) w.heap.size u15 a1 n1 c1 xs1) := hid (beInts DA1.out hc (by omega))
      replace DW : Hid (TrieA false (u1.heap.size) u4.heap.size u15 dar aW nW cW drows) := hid (beTrie DW.out hc (by omega))
      replace DG : Hid (TrieS (u6.heap.size) u7.heap.size u15 dar aG nG cG drows) := hid (beTrieS DG.out hc (by omega))
      replace HW : Hid (Below w.heap.size w u15) := hid (Below.calm HW.out hc)
      clear hb hc
      have HSG : Hid (rowsSz drows ≤ 1048576) := hid (by rw [← HDrows.out]; exact tt_sz ar0 rows0 xs1)
      obtain ⟨lenG, hlenG⟩ : ∃ l, l = lens drows drows.length := ⟨_, rfl⟩
      have HLG := hid hlenG; clear hlenG
      obtain ⟨km, hkm⟩ : ∃ k : Int, k = 1 + (lenG : Nat) := ⟨_, rfl⟩
      have hkmb : 0 ≤ km := by omega
      have hkne : (km != km) = false := by simp
      have HKM := hid hkm; clear hkm
      go_wp2_with fail
      refine (resK_Rel dar aG nG cG drows 1 _ (beTrieS (B := u15.heap.size) DG.out (by repeat (first | with_reducible assumption | with_reducible exact Below.refl _ _ | with_reducible refine below_drewN ?_ _ | with_reducible refine Below.al ?_ (by first | with_reducible exact Nat.le_refl _ | omega | (simp; done) | (simp; omega) | exact Nat.le_refl _) _ | with_reducible refine Below.setCell ?_ (by first | with_reducible exact Nat.le_refl _ | omega | (simp; done) | (simp; omega) | exact Nat.le_refl _) _ | assumption | exact Below.refl _ _ | refine below_drewN ?_ _ | refine Below.al ?_ (by first | with_reducible exact Nat.le_refl _ | omega | (simp; done) | (simp; omega) | exact Nat.le_refl _) _ | refine Below.setCell ?_ (by first | with_reducible exact Nat.le_refl _ | omega | (simp; done) | (simp; omega) | exact Nat.le_refl _) _)) (by first | with_reducible exact Nat.le_refl _ | omega | (simp; done) | (simp; omega) | exact Nat.le_refl _)) (by first | with_reducible exact Nat.le_refl _ | omega | (simp; done) | (simp; omega) | exact Nat.le_refl _) (by omega) (by omega) HSG.out).mono ?_
      rintro e u16 ⟨rfl, hm, ho⟩
      rw [← HLG.out]; rw [← HKM.out]
      have z16 : u15.heap.size ≤ u16.heap.size := hm.size
      replace B0c0 : u16.cell? ⟨w.heap.size, 0, none⟩ = some (.int .i64 ar0) := (by rw [boxG hm _ B0s (by omega)]; exact B0c0)
      replace B0c1 : u16.cell? ⟨w.heap.size, 1, none⟩ = some (.slice a0 n0 c0) := (by rw [boxG hm _ B0s (by omega)]; exact B0c1)
      replace B0s : w.heap.size < u16.heap.size := (by omega)
      replace B1c0 : u16.cell? ⟨u4.heap.size, 0, none⟩ = some (.int .i64 dar) := (by rw [boxG hm _ B1s (by omega)]; exact B1c0)
      replace B1c1 : u16.cell? ⟨u4.heap.size, 1, none⟩ = some (.slice aW nW cW) := (by rw [boxG hm _ B1s (by omega)]; exact B1c1)
      replace B1s : u4.heap.size < u16.heap.size := (by omega)
      replace B2c0 : u16.cell? ⟨u5.heap.size, 0, none⟩ = some (.int .i64 ar0) := (by rw [boxG hm _ B2s (by omega)]; exact B2c0)
      replace B2c1 : u16.cell? ⟨u5.heap.size, 1, none⟩ = some (.slice ax0 nx0 cx0) := (by rw [boxG hm _ B2s (by omega)]; exact B2c1)
      replace B2s : u5.heap.size < u16.heap.size := (by omega)
      replace B3c0 : u16.cell? ⟨u7.heap.size, 0, none⟩ = some (.int .i64 dar) := (by rw [boxG hm _ B3s (by omega)]; exact B3c0)
      replace B3c1 : u16.cell? ⟨u7.heap.size, 1, none⟩ = some (.slice aG nG cG) := (by rw [boxG hm _ B3s (by omega)]; exact B3c1)
      replace B3s : u7.heap.size < u16.heap.size := (by omega)
      replace DA0 : Hid (TrieA false (0) w.heap.size u16 ar0 a0 n0 c0 rows0) := hid (kpTrie DA0.out (hm.keeps (by omega) (by omega)))
      replace DA1 : Hid (IntsA false (0) w.heap.size u16 a1 n1 c1 xs1) := hid (kpInts DA1.out (hm.keeps (by omega) (by omega)))
      replace DW : Hid (TrieA false (u1.heap.size) u4.heap.size u16 dar aW nW cW drows) := hid (kpTrie DW.out (hm.keeps (by omega) (by omega)))
      replace HW : Hid (Below w.heap.size w u16) := hid (HW.out.trans (hm.below (by omega) (by omega)))
      have DM : Hid (TrieA true (u6.heap.size) u7.heap.size u16 (dar) aG nG cG (mkRows 1 drows)) := hid ho
      clear ho hm
      go_wp2_with fail
      refine (heldK_Rel dar aG nG cG drows 1 _ (beTrie (B := u16.heap.size) DM.out (by repeat (first | with_reducible assumption | with_reducible exact Below.refl _ _ | with_reducible refine below_drewN ?_ _ | with_reducible refine Below.al ?_ (by first | with_reducible exact Nat.le_refl _ | omega | (simp; done) | (simp; omega) | exact Nat.le_refl _) _ | with_reducible refine Below.setCell ?_ (by first | with_reducible exact Nat.le_refl _ | omega | (simp; done) | (simp; omega) | exact Nat.le_refl _) _ | assumption | exact Below.refl _ _ | refine below_drewN ?_ _ | refine Below.al ?_ (by first | with_reducible exact Nat.le_refl _ | omega | (simp; done) | (simp; omega) | exact Nat.le_refl _) _ | refine Below.setCell ?_ (by first | with_reducible exact Nat.le_refl _ | omega | (simp; done) | (simp; omega) | exact Nat.le_refl _) _)) (by first | with_reducible exact Nat.le_refl _ | omega | (simp; done) | (simp; omega) | exact Nat.le_refl _)) (by first | with_reducible exact Nat.le_refl _ | omega | (simp; done) | (simp; omega) | exact Nat.le_refl _) (by omega) (by omega) HSG.out).mono ?_
      rintro e u17 ⟨rfl, hb⟩
      rw [← HLG.out, ← HKM.out]
      have hc : Below u16.heap.size u16 u17 := Below.trans (by repeat (first | with_reducible assumption | with_reducible exact Below.refl _ _ | with_reducible refine below_drewN ?_ _ | with_reducible refine Below.al ?_ (by first | with_reducible exact Nat.le_refl _ | omega | (simp; done) | (simp; omega) | exact Nat.le_refl _) _ | with_reducible refine Below.setCell ?_ (by first | with_reducible exact Nat.le_refl _ | omega | (simp; done) | (simp; omega) | exact Nat.le_refl _) _ | assumption | exact Below.refl _ _ | refine below_drewN ?_ _ | refine Below.al ?_ (by first | with_reducible exact Nat.le_refl _ | omega | (simp; done) | (simp; omega) | exact Nat.le_refl _) _ | refine Below.setCell ?_ (by first | with_reducible exact Nat.le_refl _ | omega | (simp; done) | (simp; omega) | exact Nat.le_refl _) _)) (hb.mono (by first | with_reducible exact Nat.le_refl _ | omega | (simp; done) | (simp; omega) | exact Nat.le_refl _))
      have z17 : u16.heap.size ≤ u17.heap.size := hc.size
      replace B0c0 : u17.cell? ⟨w.heap.size, 0, none⟩ = some (.int .i64 ar0) := (by rw [(bcell hc).1 _ _ B0s]; exact B0c0)
      replace B0c1 : u17.cell? ⟨w.heap.size, 1, none⟩ = some (.slice a0 n0 c0) := (by rw [(bcell hc).1 _ _ B0s]; exact B0c1)
      replace B0s : w.heap.size < u17.heap.size := (by omega)
      replace B1c0 : u17.cell? ⟨u4.heap.size, 0, none⟩ = some (.int .i64 dar) := (by rw [(bcell hc).1 _ _ B1s]; exact B1c0)
      replace B1c1 : u17.cell? ⟨u4.heap.size, 1, none⟩ = some (.slice aW nW cW) := (by rw [(bcell hc).1 _ _ B1s]; exact B1c1)
      replace B1s : u4.heap.size < u17.heap.size := (by omega)
      replace B2c0 : u17.cell? ⟨u5.heap.size, 0, none⟩ = some (.int .i64 ar0) := (by rw [(bcell hc).1 _ _ B2s]; exact B2c0)
      replace B2c1 : u17.cell? ⟨u5.heap.size, 1, none⟩ = some (.slice ax0 nx0 cx0) := (by rw [(bcell hc).1 _ _ B2s]; exact B2c1)
      replace B2s : u5.heap.size < u17.heap.size := (by omega)
      replace B3c0 : u17.cell? ⟨u7.heap.size, 0, none⟩ = some (.int .i64 dar) := (by rw [(bcell hc).1 _ _ B3s]; exact B3c0)
      replace B3c1 : u17.cell? ⟨u7.heap.size, 1, none⟩ = some (.slice aG nG cG) := (by rw [(bcell hc).1 _ _ B3s]; exact B3c1)
      replace B3s : u7.heap.size < u17.heap.size := (by omega)
      replace DA0 : Hid (TrieA false (0) w.heap.size u17 ar0 a0 n0 c0 rows0) := hid (beTrie DA0.out hc (by omega))
      replace DA1 : Hid (IntsA false (0) w.heap.size u17 a1 n1 c1 xs1) := hid (beInts DA1.out hc (by omega))
      replace DW : Hid (TrieA false (u1.heap.size) u4.heap.size u17 dar aW nW cW drows) := hid (beTrie DW.out hc (by omega))
      replace DM : Hid (TrieA true (u6.heap.size) u7.heap.size u17 (dar) aG nG cG (mkRows 1 drows)) := hid (beTrie DM.out hc (by omega))
      replace HW : Hid (Below w.heap.size w u17) := hid (Below.calm HW.out hc)
      clear hb hc
      go_wp2_with fail
      refine (toK_Trie ar0 a0 n0 c0 rows0 _ (beTrie (B := u17.heap.size) DA0.out (by repeat (first | with_reducible assumption | with_reducible exact Below.refl _ _ | with_reducible refine below_drewN ?_ _ | with_reducible refine Below.al ?_ (by first | with_reducible exact Nat.le_refl _ | omega | (simp; done) | (simp; omega) | exact Nat.le_refl _) _ | with_reducible refine Below.setCell ?_ (by first | with_reducible exact Nat.le_refl _ | omega | (simp; done) | (simp; omega) | exact Nat.le_refl _) _ | assumption | exact Below.refl _ _ | refine below_drewN ?_ _ | refine Below.al ?_ (by first | with_reducible exact Nat.le_refl _ | omega | (simp; done) | (simp; omega) | exact Nat.le_refl _) _ | refine Below.setCell ?_ (by first | with_reducible exact Nat.le_refl _ | omega | (simp; done) | (simp; omega) | exact Nat.le_refl _) _)) (by first | with_reducible exact Nat.le_refl _ | omega | (simp; done) | (simp; omega) | exact Nat.le_refl _)) (by first | with_reducible exact Nat.le_refl _ | omega | (simp; done) | (simp; omega) | exact Nat.le_refl _) HS0.out).mono ?_
      rintro e u18 ⟨ah0, nh0, ch0, rfl, ho, hb⟩
      have hc : Below u17.heap.size u17 u18 := Below.trans (by repeat (first | with_reducible assumption | with_reducible exact Below.refl _ _ | with_reducible refine below_drewN ?_ _ | with_reducible refine Below.al ?_ (by first | with_reducible exact Nat.le_refl _ | omega | (simp; done) | (simp; omega) | exact Nat.le_refl _) _ | with_reducible refine Below.setCell ?_ (by first | with_reducible exact Nat.le_refl _ | omega | (simp; done) | (simp; omega) | exact Nat.le_refl _) _ | assumption | exact Below.refl _ _ | refine below_drewN ?_ _ | refine Below.al ?_ (by first | with_reducible exact Nat.le_refl _ | omega | (simp; done) | (simp; omega) | exact Nat.le_refl _) _ | refine Below.setCell ?_ (by first | with_reducible exact Nat.le_refl _ | omega | (simp; done) | (simp; omega) | exact Nat.le_refl _) _)) (hb.mono (by first | with_reducible exact Nat.le_refl _ | omega | (simp; done) | (simp; omega) | exact Nat.le_refl _))
      have z18 : u17.heap.size ≤ u18.heap.size := hc.size
      replace B0c0 : u18.cell? ⟨w.heap.size, 0, none⟩ = some (.int .i64 ar0) := (by rw [(bcell hc).1 _ _ B0s]; exact B0c0)
      replace B0c1 : u18.cell? ⟨w.heap.size, 1, none⟩ = some (.slice a0 n0 c0) := (by rw [(bcell hc).1 _ _ B0s]; exact B0c1)
      replace B0s : w.heap.size < u18.heap.size := (by omega)
      replace B1c0 : u18.cell? ⟨u4.heap.size, 0, none⟩ = some (.int .i64 dar) := (by rw [(bcell hc).1 _ _ B1s]; exact B1c0)
      replace B1c1 : u18.cell? ⟨u4.heap.size, 1, none⟩ = some (.slice aW nW cW) := (by rw [(bcell hc).1 _ _ B1s]; exact B1c1)
      replace B1s : u4.heap.size < u18.heap.size := (by omega)
      replace B2c0 : u18.cell? ⟨u5.heap.size, 0, none⟩ = some (.int .i64 ar0) := (by rw [(bcell hc).1 _ _ B2s]; exact B2c0)
      replace B2c1 : u18.cell? ⟨u5.heap.size, 1, none⟩ = some (.slice ax0 nx0 cx0) := (by rw [(bcell hc).1 _ _ B2s]; exact B2c1)
      replace B2s : u5.heap.size < u18.heap.size := (by omega)
      replace B3c0 : u18.cell? ⟨u7.heap.size, 0, none⟩ = some (.int .i64 dar) := (by rw [(bcell hc).1 _ _ B3s]; exact B3c0)
      replace B3c1 : u18.cell? ⟨u7.heap.size, 1, none⟩ = some (.slice aG nG cG) := (by rw [(bcell hc).1 _ _ B3s]; exact B3c1)
      replace B3s : u7.heap.size < u18.heap.size := (by omega)
      replace DA0 : Hid (TrieA false (0) w.heap.size u18 ar0 a0 n0 c0 rows0) := hid (beTrie DA0.out hc (by omega))
      replace DA1 : Hid (IntsA false (0) w.heap.size u18 a1 n1 c1 xs1) := hid (beInts DA1.out hc (by omega))
      replace DW : Hid (TrieA false (u1.heap.size) u4.heap.size u18 dar aW nW cW drows) := hid (beTrie DW.out hc (by omega))
      replace DM : Hid (TrieA true (u6.heap.size) u7.heap.size u18 (dar) aG nG cG (mkRows 1 drows)) := hid (beTrie DM.out hc (by omega))
      replace HW : Hid (Below w.heap.size w u18) := hid (Below.calm HW.out hc)
      have Dh0 : Hid (TrieA true (u17.heap.size) u18.heap.size u18 ar0 ah0 nh0 ch0 rows0) := hid (wdTrie ho (by first | with_reducible exact Nat.le_refl _ | omega | (simp; done) | (simp; omega) | exact Nat.le_refl _))
      clear ho hb hc
      go_wp2_with fail
      refine (toK_Ints a1 n1 c1 xs1 _ (beInts (B := u18.heap.size) DA1.out (by repeat (first | with_reducible assumption | with_reducible exact Below.refl _ _ | with_reducible refine below_drewN ?_ _ | with_reducible refine Below.al ?_ (by first | with_reducible exact Nat.le_refl _ | omega | (simp; done) | (simp; omega) | exact Nat.le_refl _) _ | with_reducible refine Below.setCell ?_ (by first | with_reducible exact Nat.le_refl _ | omega | (simp; done) | (simp; omega) | exact Nat.le_refl _) _ | assumption | exact Below.refl _ _ | refine below_drewN ?_ _ | refine Below.al ?_ (by first | with_reducible exact Nat.le_refl _ | omega | (simp; done) | (simp; omega) | exact Nat.le_refl _) _ | refine Below.setCell ?_ (by first | with_reducible exact Nat.le_refl _ | omega | (simp; done) | (simp; omega) | exact Nat.le_refl _) _)) (by first | with_reducible exact Nat.le_refl _ | omega | (simp; done) | (simp; omega) | exact Nat.le_refl _)) (by first | with_reducible exact Nat.le_refl _ | omega | (simp; done) | (simp; omega) | exact Nat.le_refl _) HS1.out).mono ?_
      rintro e u19 ⟨ah1, nh1, ch1, rfl, ho, hb⟩
      have hc : Below u18.heap.size u18 u19 := Below.trans (by repeat (first | with_reducible assumption | with_reducible exact Below.refl _ _ | with_reducible refine below_drewN ?_ _ | with_reducible refine Below.al ?_ (by first | with_reducible exact Nat.le_refl _ | omega | (simp; done) | (simp; omega) | exact Nat.le_refl _) _ | with_reducible refine Below.setCell ?_ (by first | with_reducible exact Nat.le_refl _ | omega | (simp; done) | (simp; omega) | exact Nat.le_refl _) _ | assumption | exact Below.refl _ _ | refine below_drewN ?_ _ | refine Below.al ?_ (by first | with_reducible exact Nat.le_refl _ | omega | (simp; done) | (simp; omega) | exact Nat.le_refl _) _ | refine Below.setCell ?_ (by first | with_reducible exact Nat.le_refl _ | omega | (simp; done) | (simp; omega) | exact Nat.le_refl _) _)) (hb.mono (by first | with_reducible exact Nat.le_refl _ | omega | (simp; done) | (simp; omega) | exact Nat.le_refl _))
      have z19 : u18.heap.size ≤ u19.heap.size := hc.size
      replace B0c0 : u19.cell? ⟨w.heap.size, 0, none⟩ = some (.int .i64 ar0) := (by rw [(bcell hc).1 _ _ B0s]; exact B0c0)
      replace B0c1 : u19.cell? ⟨w.heap.size, 1, none⟩ = some (.slice a0 n0 c0) := (by rw [(bcell hc).1 _ _ B0s]; exact B0c1)
      replace B0s : w.heap.size < u19.heap.size := (by omega)
      replace B1c0 : u19.cell? ⟨u4.heap.size, 0, none⟩ = some (.int .i64 dar) := (by rw [(bcell hc).1 _ _ B1s]; exact B1c0)
      replace B1c1 : u19.cell? ⟨u4.heap.size, 1, none⟩ = some (.slice aW nW cW) := (by rw [(bcell hc).1 _ _ B1s]; exact B1c1)
      replace B1s : u4.heap.size < u19.heap.size := (by omega)
      replace B2c0 : u19.cell? ⟨u5.heap.size, 0, none⟩ = some (.int .i64 ar0) := (by rw [(bcell hc).1 _ _ B2s]; exact B2c0)
      replace B2c1 : u19.cell? ⟨u5.heap.size, 1, none⟩ = some (.slice ax0 nx0 cx0) := (by rw [(bcell hc).1 _ _ B2s]; exact B2c1)
      replace B2s : u5.heap.size < u19.heap.size := (by omega)
      replace B3c0 : u19.cell? ⟨u7.heap.size, 0, none⟩ = some (.int .i64 dar) := (by rw [(bcell hc).1 _ _ B3s]; exact B3c0)
      replace B3c1 : u19.cell? ⟨u7.heap.size, 1, none⟩ = some (.slice aG nG cG) := (by rw [(bcell hc).1 _ _ B3s]; exact B3c1)
      replace B3s : u7.heap.size < u19.heap.size := (by omega)
      replace DA0 : Hid (TrieA false (0) w.heap.size u19 ar0 a0 n0 c0 rows0) := hid (beTrie DA0.out hc (by omega))
      replace DA1 : Hid (IntsA false (0) w.heap.size u19 a1 n1 c1 xs1) := hid (beInts DA1.out hc (by omega))
      replace DW : Hid (TrieA false (u1.heap.size) u4.heap.size u19 dar aW nW cW drows) := hid (beTrie DW.out hc (by omega))
      replace DM : Hid (TrieA true (u6.heap.size) u7.heap.size u19 (dar) aG nG cG (mkRows 1 drows)) := hid (beTrie DM.out hc (by omega))
      replace Dh0 : Hid (TrieA true (u17.heap.size) u18.heap.size u19 ar0 ah0 nh0 ch0 rows0) := hid (beTrie Dh0.out hc (by omega))
      replace HW : Hid (Below w.heap.size w u19) := hid (Below.calm HW.out hc)
      have Dh1 : Hid (IntsA true (u18.heap.size) u19.heap.size u19 ah1 nh1 ch1 xs1) := hid (wdInts ho (by first | with_reducible exact Nat.le_refl _ | omega | (simp; done) | (simp; omega) | exact Nat.le_refl _))
      clear ho hb hc
      go_wp2_with fail
      refine (rel_own (implToRelA ar0 rows0 xs1 HS1.out) (tt_asc _ _ _).1 (tt_asc _ _ _).2 (beTrie (B := u19.heap.size) Dh0.out (by repeat (first | with_reducible assumption | with_reducible exact Below.refl _ _ | with_reducible refine below_drewN ?_ _ | with_reducible refine Below.al ?_ (by first | with_reducible exact Nat.le_refl _ | omega | (simp; done) | (simp; omega) | exact Nat.le_refl _) _ | with_reducible refine Below.setCell ?_ (by first | with_reducible exact Nat.le_refl _ | omega | (simp; done) | (simp; omega) | exact Nat.le_refl _) _ | assumption | exact Below.refl _ _ | refine below_drewN ?_ _ | refine Below.al ?_ (by first | with_reducible exact Nat.le_refl _ | omega | (simp; done) | (simp; omega) | exact Nat.le_refl _) _ | refine Below.setCell ?_ (by first | with_reducible exact Nat.le_refl _ | omega | (simp; done) | (simp; omega) | exact Nat.le_refl _) _)) (by first | with_reducible exact Nat.le_refl _ | omega | (simp; done) | (simp; omega) | exact Nat.le_refl _)) (by first | with_reducible exact Nat.le_refl _ | omega | (simp; done) | (simp; omega) | exact Nat.le_refl _) (beInts (B := u19.heap.size) Dh1.out (by repeat (first | with_reducible assumption | with_reducible exact Below.refl _ _ | with_reducible refine below_drewN ?_ _ | with_reducible refine Below.al ?_ (by first | with_reducible exact Nat.le_refl _ | omega | (simp; done) | (simp; omega) | exact Nat.le_refl _) _ | with_reducible refine Below.setCell ?_ (by first | with_reducible exact Nat.le_refl _ | omega | (simp; done) | (simp; omega) | exact Nat.le_refl _) _ | assumption | exact Below.refl _ _ | refine below_drewN ?_ _ | refine Below.al ?_ (by first | with_reducible exact Nat.le_refl _ | omega | (simp; done) | (simp; omega) | exact Nat.le_refl _) _ | refine Below.setCell ?_ (by first | with_reducible exact Nat.le_refl _ | omega | (simp; done) | (simp; omega) | exact Nat.le_refl _) _)) (by first | with_reducible exact Nat.le_refl _ | omega | (simp; done) | (simp; omega) | exact Nat.le_refl _)) (by first | with_reducible exact Nat.le_refl _ | omega | (simp; done) | (simp; omega) | exact Nat.le_refl _)).mono ?_
      rintro e u20 ⟨aE, nE, cE, rfl, ho, hb⟩
      rw [HDar.out, HDrows.out] at ho; rw [HDar.out, HRB.out]
      have hc : Below u19.heap.size u19 u20 := Below.trans (by repeat (first | with_reducible assumption | with_reducible exact Below.refl _ _ | with_reducible refine below_drewN ?_ _ | with_reducible refine Below.al ?_ (by first | with_reducible exact Nat.le_refl _ | omega | (simp; done) | (simp; omega) | exact Nat.le_refl _) _ | with_reducible refine Below.setCell ?_ (by first | with_reducible exact Nat.le_refl _ | omega | (simp; done) | (simp; omega) | exact Nat.le_refl _) _ | assumption | exact Below.refl _ _ | refine below_drewN ?_ _ | refine Below.al ?_ (by first | with_reducible exact Nat.le_refl _ | omega | (simp; done) | (simp; omega) | exact Nat.le_refl _) _ | refine Below.setCell ?_ (by first | with_reducible exact Nat.le_refl _ | omega | (simp; done) | (simp; omega) | exact Nat.le_refl _) _)) (hb.mono (by first | with_reducible exact Nat.le_refl _ | omega | (simp; done) | (simp; omega) | exact Nat.le_refl _))
      have z20 : u19.heap.size ≤ u20.heap.size := hc.size
      replace B0c0 : u20.cell? ⟨w.heap.size, 0, none⟩ = some (.int .i64 ar0) := (by rw [(bcell hc).1 _ _ B0s]; exact B0c0)
      replace B0c1 : u20.cell? ⟨w.heap.size, 1, none⟩ = some (.slice a0 n0 c0) := (by rw [(bcell hc).1 _ _ B0s]; exact B0c1)
      replace B0s : w.heap.size < u20.heap.size := (by omega)
      replace B1c0 : u20.cell? ⟨u4.heap.size, 0, none⟩ = some (.int .i64 dar) := (by rw [(bcell hc).1 _ _ B1s]; exact B1c0)
      replace B1c1 : u20.cell? ⟨u4.heap.size, 1, none⟩ = some (.slice aW nW cW) := (by rw [(bcell hc).1 _ _ B1s]; exact B1c1)
      replace B1s : u4.heap.size < u20.heap.size := (by omega)
      replace B2c0 : u20.cell? ⟨u5.heap.size, 0, none⟩ = some (.int .i64 ar0) := (by rw [(bcell hc).1 _ _ B2s]; exact B2c0)
      replace B2c1 : u20.cell? ⟨u5.heap.size, 1, none⟩ = some (.slice ax0 nx0 cx0) := (by rw [(bcell hc).1 _ _ B2s]; exact B2c1)
      replace B2s : u5.heap.size < u20.heap.size := (by omega)
      replace B3c0 : u20.cell? ⟨u7.heap.size, 0, none⟩ = some (.int .i64 dar) := (by rw [(bcell hc).1 _ _ B3s]; exact B3c0)
      replace B3c1 : u20.cell? ⟨u7.heap.size, 1, none⟩ = some (.slice aG nG cG) := (by rw [(bcell hc).1 _ _ B3s]; exact B3c1)
      replace B3s : u7.heap.size < u20.heap.size := (by omega)
      replace DA0 : Hid (TrieA false (0) w.heap.size u20 ar0 a0 n0 c0 rows0) := hid (beTrie DA0.out hc (by omega))
      replace DA1 : Hid (IntsA false (0) w.heap.size u20 a1 n1 c1 xs1) := hid (beInts DA1.out hc (by omega))
      replace DW : Hid (TrieA false (u1.heap.size) u4.heap.size u20 dar aW nW cW drows) := hid (beTrie DW.out hc (by omega))
      replace DM : Hid (TrieA true (u6.heap.size) u7.heap.size u20 (dar) aG nG cG (mkRows 1 drows)) := hid (beTrie DM.out hc (by omega))
      replace Dh0 : Hid (TrieA true (u17.heap.size) u18.heap.size u20 ar0 ah0 nh0 ch0 rows0) := hid (beTrie Dh0.out hc (by omega))
      replace Dh1 : Hid (IntsA true (u18.heap.size) u19.heap.size u20 ah1 nh1 ch1 xs1) := hid (beInts Dh1.out hc (by omega))
      replace HW : Hid (Below w.heap.size w u20) := hid (Below.calm HW.out hc)
      have DE : Hid (TrieS (u19.heap.size) u20.heap.size u20 dar aE nE cE drows) := hid (wdTrieS ho (by first | with_reducible exact Nat.le_refl _ | omega | (simp; done) | (simp; omega) | exact Nat.le_refl _))
      clear ho hb hc
      go_wp2_with fail
      refine (eqK_Rel dar aE aW nE cE nW cW drows _ ((beTrieS (B := u20.heap.size) DE.out (by repeat (first | with_reducible assumption | with_reducible exact Below.refl _ _ | with_reducible refine below_drewN ?_ _ | with_reducible refine Below.al ?_ (by first | with_reducible exact Nat.le_refl _ | omega | (simp; done) | (simp; omega) | exact Nat.le_refl _) _ | with_reducible refine Below.setCell ?_ (by first | with_reducible exact Nat.le_refl _ | omega | (simp; done) | (simp; omega) | exact Nat.le_refl _) _ | assumption | exact Below.refl _ _ | refine below_drewN ?_ _ | refine Below.al ?_ (by first | with_reducible exact Nat.le_refl _ | omega | (simp; done) | (simp; omega) | exact Nat.le_refl _) _ | refine Below.setCell ?_ (by first | with_reducible exact Nat.le_refl _ | omega | (simp; done) | (simp; omega) | exact Nat.le_refl _) _)) (by first | with_reducible exact Nat.le_refl _ | omega | (simp; done) | (simp; omega) | exact Nat.le_refl _))).tr (by first | with_reducible exact Nat.le_refl _ | omega | (simp; done) | (simp; omega) | exact Nat.le_refl _) (beTrie (B := u20.heap.size) DW.out (by repeat (first | with_reducible assumption | with_reducible exact Below.refl _ _ | with_reducible refine below_drewN ?_ _ | with_reducible refine Below.al ?_ (by first | with_reducible exact Nat.le_refl _ | omega | (simp; done) | (simp; omega) | exact Nat.le_refl _) _ | with_reducible refine Below.setCell ?_ (by first | with_reducible exact Nat.le_refl _ | omega | (simp; done) | (simp; omega) | exact Nat.le_refl _) _ | assumption | exact Below.refl _ _ | refine below_drewN ?_ _ | refine Below.al ?_ (by first | with_reducible exact Nat.le_refl _ | omega | (simp; done) | (simp; omega) | exact Nat.le_refl _) _ | refine Below.setCell ?_ (by first | with_reducible exact Nat.le_refl _ | omega | (simp; done) | (simp; omega) | exact Nat.le_refl _) _)) (by first | with_reducible exact Nat.le_refl _ | omega | (simp; done) | (simp; omega) | exact Nat.le_refl _)) (by first | with_reducible exact Nat.le_refl _ | omega | (simp; done) | (simp; omega) | exact Nat.le_refl _)).mono ?_
      rintro e u21 ⟨rfl, hb⟩
      have hc : Below u20.heap.size u20 u21 := Below.trans (by repeat (first | with_reducible assumption | with_reducible exact Below.refl _ _ | with_reducible refine below_drewN ?_ _ | with_reducible refine Below.al ?_ (by first | with_reducible exact Nat.le_refl _ | omega | (simp; done) | (simp; omega) | exact Nat.le_refl _) _ | with_reducible refine Below.setCell ?_ (by first | with_reducible exact Nat.le_refl _ | omega | (simp; done) | (simp; omega) | exact Nat.le_refl _) _ | assumption | exact Below.refl _ _ | refine below_drewN ?_ _ | refine Below.al ?_ (by first | with_reducible exact Nat.le_refl _ | omega | (simp; done) | (simp; omega) | exact Nat.le_refl _) _ | refine Below.setCell ?_ (by first | with_reducible exact Nat.le_refl _ | omega | (simp; done) | (simp; omega) | exact Nat.le_refl _) _)) (hb.mono (by first | with_reducible exact Nat.le_refl _ | omega | (simp; done) | (simp; omega) | exact Nat.le_refl _))
      have z21 : u20.heap.size ≤ u21.heap.size := hc.size
      replace B0c0 : u21.cell? ⟨w.heap.size, 0, none⟩ = some (.int .i64 ar0) := (by rw [(bcell hc).1 _ _ B0s]; exact B0c0)
      replace B0c1 : u21.cell? ⟨w.heap.size, 1, none⟩ = some (.slice a0 n0 c0) := (by rw [(bcell hc).1 _ _ B0s]; exact B0c1)
      replace B0s : w.heap.size < u21.heap.size := (by omega)
      replace B1c0 : u21.cell? ⟨u4.heap.size, 0, none⟩ = some (.int .i64 dar) := (by rw [(bcell hc).1 _ _ B1s]; exact B1c0)
      replace B1c1 : u21.cell? ⟨u4.heap.size, 1, none⟩ = some (.slice aW nW cW) := (by rw [(bcell hc).1 _ _ B1s]; exact B1c1)
      replace B1s : u4.heap.size < u21.heap.size := (by omega)
      replace B2c0 : u21.cell? ⟨u5.heap.size, 0, none⟩ = some (.int .i64 ar0) := (by rw [(bcell hc).1 _ _ B2s]; exact B2c0)
      replace B2c1 : u21.cell? ⟨u5.heap.size, 1, none⟩ = some (.slice ax0 nx0 cx0) := (by rw [(bcell hc).1 _ _ B2s]; exact B2c1)
      replace B2s : u5.heap.size < u21.heap.size := (by omega)
      replace B3c0 : u21.cell? ⟨u7.heap.size, 0, none⟩ = some (.int .i64 dar) := (by rw [(bcell hc).1 _ _ B3s]; exact B3c0)
      replace B3c1 : u21.cell? ⟨u7.heap.size, 1, none⟩ = some (.slice aG nG cG) := (by rw [(bcell hc).1 _ _ B3s]; exact B3c1)
      replace B3s : u7.heap.size < u21.heap.size := (by omega)
      have B4c0 : u21.cell? ⟨u20.heap.size, 0, none⟩ = some (.int .i64 dar) := (by rw [(bcell hb).1 _ _ (by first | omega | (simp; done) | (simp; omega))]; first | with_reducible assumption | (go_simp; done) | assumption | (simp [World.cell?]; done))
      have B4c1 : u21.cell? ⟨u20.heap.size, 1, none⟩ = some (.slice aE nE cE) := (by rw [(bcell hb).1 _ _ (by first | omega | (simp; done) | (simp; omega))]; first | with_reducible assumption | (go_simp; done) | assumption | (simp [World.cell?]; done))
      have B4p : u20.heap.size < u21.heap.size := World.block_lt_of_cell? _ _ B4c0
      have B4s : u20.heap.size < u21.heap.size := B4p
      replace DA0 : Hid (TrieA false (0) w.heap.size u21 ar0 a0 n0 c0 rows0) := hid (beTrie DA0.out hc (by omega))
      replace DA1 : Hid (IntsA false (0) w.heap.size u21 a1 n1 c1 xs1) := hid (beInts DA1.out hc (by omega))
      replace DW : Hid (TrieA false (u1.heap.size) u4.heap.size u21 dar aW nW cW drows) := hid (beTrie DW.out hc (by omega))
      replace DM : Hid (TrieA true (u6.heap.size) u7.heap.size u21 (dar) aG nG cG (mkRows 1 drows)) := hid (beTrie DM.out hc (by omega))
      replace Dh0 : Hid (TrieA true (u17.heap.size) u18.heap.size u21 ar0 ah0 nh0 ch0 rows0) := hid (beTrie Dh0.out hc (by omega))
      replace Dh1 : Hid (IntsA true (u18.heap.size) u19.heap.size u21 ah1 nh1 ch1 xs1) := hid (beInts Dh1.out hc (by omega))
      replace DE : Hid (TrieS (u19.heap.size) u20.heap.size u21 dar aE nE cE drows) := hid (beTrieS DE.out hc (by omega))
      replace HW : Hid (Below w.heap.size w u21) := hid (Below.calm HW.out hc)
      clear hb hc
      go_wp2_with fail
      refine (heldK_Rel dar aG nG cG drows 1 _ (beTrie (B := u21.heap.size) DM.out (by repeat (first | with_reducible assumption | with_reducible exact Below.refl _ _ | with_reducible refine below_drewN ?_ _ | with_reducible refine Below.al ?_ (by first | with_reducible exact Nat.le_refl _ | omega | (simp; done) | (simp; omega) | exact Nat.le_refl _) _ | with_reducible refine Below.setCell ?_ (by first | with_reducible exact Nat.le_refl _ | omega | (simp; done) | (simp; omega) | exact Nat.le_refl _) _ | assumption | exact Below.refl _ _ | refine below_drewN ?_ _ | refine Below.al ?_ (by first | with_reducible exact Nat.le_refl _ | omega | (simp; done) | (simp; omega) | exact Nat.le_refl _) _ | refine Below.setCell ?_ (by first | with_reducible exact Nat.le_refl _ | omega | (simp; done) | (simp; omega) | exact Nat.le_refl _) _)) (by first | with_reducible exact Nat.le_refl _ | omega | (simp; done) | (simp; omega) | exact Nat.le_refl _)) (by first | with_reducible exact Nat.le_refl _ | omega | (simp; done) | (simp; omega) | exact Nat.le_refl _) (by omega) (by omega) HSG.out).mono ?_
      rintro e u22 ⟨rfl, hb⟩
      rw [← HLG.out, ← HKM.out]
      have hc : Below u21.heap.size u21 u22 := Below.trans (by repeat (first | with_reducible assumption | with_reducible exact Below.refl _ _ | with_reducible refine below_drewN ?_ _ | with_reducible refine Below.al ?_ (by first | with_reducible exact Nat.le_refl _ | omega | (simp; done) | (simp; omega) | exact Nat.le_refl _) _ | with_reducible refine Below.setCell ?_ (by first | with_reducible exact Nat.le_refl _ | omega | (simp; done) | (simp; omega) | exact Nat.le_refl _) _ | assumption | exact Below.refl _ _ | refine below_drewN ?_ _ | refine Below.al ?_ (by first | with_reducible exact Nat.le_refl _ | omega | (simp; done) | (simp; omega) | exact Nat.le_refl _) _ | refine Below.setCell ?_ (by first | with_reducible exact Nat.le_refl _ | omega | (simp; done) | (simp; omega) | exact Nat.le_refl _) _)) (hb.mono (by first | with_reducible exact Nat.le_refl _ | omega | (simp; done) | (simp; omega) | exact Nat.le_refl _))
      have z22 : u21.heap.size ≤ u22.heap.size := hc.size
      replace B0c0 : u22.cell? ⟨w.heap.size, 0, none⟩ = some (.int .i64 ar0) := (by rw [(bcell hc).1 _ _ B0s]; exact B0c0)
      replace B0c1 : u22.cell? ⟨w.heap.size, 1, none⟩ = some (.slice a0 n0 c0) := (by rw [(bcell hc).1 _ _ B0s]; exact B0c1)
      replace B0s : w.heap.size < u22.heap.size := (by omega)
      replace B1c0 : u22.cell? ⟨u4.heap.size, 0, none⟩ = some (.int .i64 dar) := (by rw [(bcell hc).1 _ _ B1s]; exact B1c0)
      replace B1c1 : u22.cell? ⟨u4.heap.size, 1, none⟩ = some (.slice aW nW cW) := (by rw [(bcell hc).1 _ _ B1s]; exact B1c1)
      replace B1s : u4.heap.size < u22.heap.size := (by omega)
      replace B2c0 : u22.cell? ⟨u5.heap.size, 0, none⟩ = some (.int .i64 ar0) := (by rw [(bcell hc).1 _ _ B2s]; exact B2c0)
      replace B2c1 : u22.cell? ⟨u5.heap.size, 1, none⟩ = some (.slice ax0 nx0 cx0) := (by rw [(bcell hc).1 _ _ B2s]; exact B2c1)
      replace B2s : u5.heap.size < u22.heap.size := (by omega)
      replace B3c0 : u22.cell? ⟨u7.heap.size, 0, none⟩ = some (.int .i64 dar) := (by rw [(bcell hc).1 _ _ B3s]; exact B3c0)
      replace B3c1 : u22.cell? ⟨u7.heap.size, 1, none⟩ = some (.slice aG nG cG) := (by rw [(bcell hc).1 _ _ B3s]; exact B3c1)
      replace B3s : u7.heap.size < u22.heap.size := (by omega)
      replace B4c0 : u22.cell? ⟨u20.heap.size, 0, none⟩ = some (.int .i64 dar) := (by rw [(bcell hc).1 _ _ B4s]; exact B4c0)
      replace B4c1 : u22.cell? ⟨u20.heap.size, 1, none⟩ = some (.slice aE nE cE) := (by rw [(bcell hc).1 _ _ B4s]; exact B4c1)
      replace B4s : u20.heap.size < u22.heap.size := (by omega)
      replace DA0 : Hid (TrieA false (0) w.heap.size u22 ar0 a0 n0 c0 rows0) := hid (beTrie DA0.out hc (by omega))
      replace DA1 : Hid (IntsA false (0) w.heap.size u22 a1 n1 c1 xs1) := hid (beInts DA1.out hc (by omega))
      replace DW : Hid (TrieA false (u1.heap.size) u4.heap.size u22 dar aW nW cW drows) := hid (beTrie DW.out hc (by omega))
      replace DM : Hid (TrieA true (u6.heap.size) u7.heap.size u22 (dar) aG nG cG (mkRows 1 drows)) := hid (beTrie DM.out hc (by omega))
      replace Dh0 : Hid (TrieA true (u17.heap.size) u18.heap.size u22 ar0 ah0 nh0 ch0 rows0) := hid (beTrie Dh0.out hc (by omega))
      replace Dh1 : Hid (IntsA true (u18.heap.size) u19.heap.size u22 ah1 nh1 ch1 xs1) := hid (beInts Dh1.out hc (by omega))
      replace DE : Hid (TrieS (u19.heap.size) u20.heap.size u22 dar aE nE cE drows) := hid (beTrieS DE.out hc (by omega))
      replace HW : Hid (Below w.heap.size w u22) := hid (Below.calm HW.out hc)
      clear hb hc
      go_wp2_with fail
      go_ret
      exact ⟨rfl, HW.out⟩
    · rw [szI_no hsz0]
      have HQ0 := hid hsz0; clear hsz0
      go_wp2_with fail
      go_ret
      exact ⟨rfl, HW.out⟩
  · go_enter Try.func4, Try.ntmps4
    go_wp2
    go_ret
    exact ⟨rfl, (by repeat (first | with_reducible assumption | with_reducible exact Below.refl _ _ | with_reducible refine below_drewN ?_ _ | with_reducible refine Below.al ?_ (by first | with_reducible exact Nat.le_refl _ | omega | (simp; done) | (simp; omega) | exact Nat.le_refl _) _ | with_reducible refine Below.setCell ?_ (by first | with_reducible exact Nat.le_refl _ | omega | (simp; done) | (simp; omega) | exact Nat.le_refl _) _ | assumption | exact Below.refl _ _ | refine below_drewN ?_ _ | refine Below.al ?_ (by first | with_reducible exact Nat.le_refl _ | omega | (simp; done) | (simp; omega) | exact Nat.le_refl _) _ | refine Below.setCell ?_ (by first | with_reducible exact Nat.le_refl _ | omega | (simp; done) | (simp; omega) | exact Nat.le_refl _) _))⟩
end Go.Proofs.Yteccheoejmmjeaa
