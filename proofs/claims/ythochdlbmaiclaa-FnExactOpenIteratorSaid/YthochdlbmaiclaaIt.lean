/- The laws' own functions on TrieIterator: copying, measuring, comparing, marking. Written by structwalk.py. -/
import Derived.Test.YthochdlbmaiclaaK1
namespace Go.Proofs.Ythochdlbmaiclaa
set_option linter.unusedSimpArgs false
set_option linter.unusedVariables false
open Go.RowKit
/-- the value of a struct -/
abbrev iterV (ar : Int) (a : Option Addr) (n : Nat) (c : Nat) (la : Option Addr) (ln : Nat) (lc : Nat) (ga : Option Addr) (gn : Nat) (gc : Nat) (pa : Option Addr) (pn : Nat) (pc : Nat) : Value := .agg #[.int .i64 ar, .slice a n c, .slice la ln lc, .slice ga gn gc, .slice pa pn pc]
/-- the datum behind it -/
def IterA (fz : Bool) (lo hi : Nat) (w : World) (ar : Int) (a : Option Addr) (n : Nat) (c : Nat) (rows : List (List Int)) (la : Option Addr) (ln : Nat) (lc : Nat) (lw : List Int) (ga : Option Addr) (gn : Nat) (gc : Nat) (gh : List Int) (pa : Option Addr) (pn : Nat) (pc : Nat) (ps : List Int) : Prop := TrieA fz (lo) hi w ar a n c rows ∧ IntsA fz (lo) hi w la ln lc lw ∧ IntsA fz (lo) hi w ga gn gc gh ∧ IntsA fz (lo) hi w pa pn pc ps
theorem beIter {fz : Bool} {lo hi B : Nat} {w w' : World} {ar : Int} {a : Option Addr} {n : Nat} {c : Nat} {rows : List (List Int)} {la : Option Addr} {ln : Nat} {lc : Nat} {lw : List Int} {ga : Option Addr} {gn : Nat} {gc : Nat} {gh : List Int} {pa : Option Addr} {pn : Nat} {pc : Nat} {ps : List Int} (h : IterA fz lo hi w ar a n c rows la ln lc lw ga gn gc gh pa pn pc ps) (hb : Below B w w') (hh : hi ≤ B) : IterA fz lo hi w' ar a n c rows la ln lc lw ga gn gc gh pa pn pc ps := ⟨beTrie h.1 hb hh, beInts h.2.1 hb hh, beInts h.2.2.1 hb hh, beInts h.2.2.2 hb hh⟩
theorem kpIter {fz : Bool} {lo hi : Nat} {w w' : World} {ar : Int} {a : Option Addr} {n : Nat} {c : Nat} {rows : List (List Int)} {la : Option Addr} {ln : Nat} {lc : Nat} {lw : List Int} {ga : Option Addr} {gn : Nat} {gc : Nat} {gh : List Int} {pa : Option Addr} {pn : Nat} {pc : Nat} {ps : List Int} (h : IterA fz lo hi w ar a n c rows la ln lc lw ga gn gc gh pa pn pc ps) (hb : Keeps lo hi w w') : IterA fz lo hi w' ar a n c rows la ln lc lw ga gn gc gh pa pn pc ps := ⟨kpTrie h.1 hb, kpInts h.2.1 hb, kpInts h.2.2.1 hb, kpInts h.2.2.2 hb⟩
theorem wdIter {fz : Bool} {lo hi lo' : Nat} {w : World} {ar : Int} {a : Option Addr} {n : Nat} {c : Nat} {rows : List (List Int)} {la : Option Addr} {ln : Nat} {lc : Nat} {lw : List Int} {ga : Option Addr} {gn : Nat} {gc : Nat} {gh : List Int} {pa : Option Addr} {pn : Nat} {pc : Nat} {ps : List Int} (h : IterA fz lo hi w ar a n c rows la ln lc lw ga gn gc gh pa pn pc ps) (hl : lo' ≤ lo) : IterA fz lo' hi w ar a n c rows la ln lc lw ga gn gc gh pa pn pc ps := ⟨wdTrie h.1 hl, wdInts h.2.1 hl, wdInts h.2.2.1 hl, wdInts h.2.2.2 hl⟩
theorem hgIter {fz : Bool} {lo hi hi' : Nat} {w : World} {ar : Int} {a : Option Addr} {n : Nat} {c : Nat} {rows : List (List Int)} {la : Option Addr} {ln : Nat} {lc : Nat} {lw : List Int} {ga : Option Addr} {gn : Nat} {gc : Nat} {gh : List Int} {pa : Option Addr} {pn : Nat} {pc : Nat} {ps : List Int} (h : IterA fz lo hi w ar a n c rows la ln lc lw ga gn gc gh pa pn pc ps) (hl : hi ≤ hi') : IterA fz lo hi' w ar a n c rows la ln lc lw ga gn gc gh pa pn pc ps := ⟨hgTrie h.1 hl, hgInts h.2.1 hl, hgInts h.2.2.1 hl, hgInts h.2.2.2 hl⟩
theorem rdIter {fz : Bool} {lo hi : Nat} {w : World} {ar : Int} {a : Option Addr} {n : Nat} {c : Nat} {rows : List (List Int)} {la : Option Addr} {ln : Nat} {lc : Nat} {lw : List Int} {ga : Option Addr} {gn : Nat} {gc : Nat} {gh : List Int} {pa : Option Addr} {pn : Nat} {pc : Nat} {ps : List Int} (h : IterA fz lo hi w ar a n c rows la ln lc lw ga gn gc gh pa pn pc ps) : IterA false lo hi w ar a n c rows la ln lc lw ga gn gc gh pa pn pc ps := ⟨rdTrie h.1, rdInts h.2.1, rdInts h.2.2.1, rdInts h.2.2.2⟩
def szIter (rows : List (List Int)) (lw : List Int) (gh : List Int) (ps : List Int) : Nat := rowsSz rows + lw.length + gh.length + ps.length
set_option maxHeartbeats 1600000 in
theorem szK_Iter {fz : Bool} {lo hi : Nat} (ar : Int) (a : Option Addr) (n : Nat) (c : Nat) (rows : List (List Int)) (la : Option Addr) (ln : Nat) (lc : Nat) (lw : List Int) (ga : Option Addr) (gn : Nat) (gc : Nat) (gh : List Int) (pa : Option Addr) (pn : Nat) (pc : Nat) (ps : List Int) (left : Int) (w : World) (hI : IterA fz lo hi w ar a n c rows la ln lc lw ga gn gc gh pa pn pc ps) (hh : hi ≤ w.heap.size) (h0 : 0 ≤ left) (h1 : left ≤ 1048576) :
    Calls Try.prog 17 #[iterV ar a n c la ln lc ga gn gc pa pn pc, .int .i64 left] w (Leaves w (.int .i64 (szI (szIter rows lw gh ps) left))) := by
  have DF0 := hid hI.1
  have DF1 := hid hI.2.1
  have DF2 := hid hI.2.2.1
  have DF3 := hid hI.2.2.2
  clear hI
  go_enter Try.func17, Try.ntmps17
  go_wp2_with fail
  refine (szK_Trie ar a n c rows left _ (beTrie (B := w.heap.size) DF0.out (by repeat (first | with_reducible assumption | with_reducible exact Below.refl _ _ | with_reducible refine below_drewN ?_ _ | with_reducible refine Below.al ?_ (by first | with_reducible exact Nat.le_refl _ | omega | (simp; done) | (simp; omega) | exact Nat.le_refl _) _ | with_reducible refine Below.setCell ?_ (by first | with_reducible exact Nat.le_refl _ | omega | (simp; done) | (simp; omega) | exact Nat.le_refl _) _ | assumption | exact Below.refl _ _ | refine below_drewN ?_ _ | refine Below.al ?_ (by first | with_reducible exact Nat.le_refl _ | omega | (simp; done) | (simp; omega) | exact Nat.le_refl _) _ | refine Below.setCell ?_ (by first | with_reducible exact Nat.le_refl _ | omega | (simp; done) | (simp; omega) | exact Nat.le_refl _) _)) (by first | with_reducible exact Nat.le_refl _ | omega | (simp; done) | (simp; omega) | exact Nat.le_refl _)) (by first | with_reducible exact Nat.le_refl _ | omega | (simp; done) | (simp; omega) | exact Nat.le_refl _) (by omega) (by omega)).mono ?_
  rintro e u1 ⟨rfl, hb⟩
  have hc : Below w.heap.size w u1 := Below.trans (by repeat (first | with_reducible assumption | with_reducible exact Below.refl _ _ | with_reducible refine below_drewN ?_ _ | with_reducible refine Below.al ?_ (by first | with_reducible exact Nat.le_refl _ | omega | (simp; done) | (simp; omega) | exact Nat.le_refl _) _ | with_reducible refine Below.setCell ?_ (by first | with_reducible exact Nat.le_refl _ | omega | (simp; done) | (simp; omega) | exact Nat.le_refl _) _ | assumption | exact Below.refl _ _ | refine below_drewN ?_ _ | refine Below.al ?_ (by first | with_reducible exact Nat.le_refl _ | omega | (simp; done) | (simp; omega) | exact Nat.le_refl _) _ | refine Below.setCell ?_ (by first | with_reducible exact Nat.le_refl _ | omega | (simp; done) | (simp; omega) | exact Nat.le_refl _) _)) (hb.mono (by first | with_reducible exact Nat.le_refl _ | omega | (simp; done) | (simp; omega) | exact Nat.le_refl _))
  have z1 : w.heap.size ≤ u1.heap.size := hc.size
  have B0c0 : u1.cell? ⟨w.heap.size, 0, none⟩ = some (.int .i64 ar) := (by rw [(bcell hb).1 _ _ (by first | omega | (simp; done) | (simp; omega))]; first | with_reducible assumption | (go_simp; done) | assumption | (simp [World.cell?]; done))
  have B0c1 : u1.cell? ⟨w.heap.size, 1, none⟩ = some (.slice a n c) := (by rw [(bcell hb).1 _ _ (by first | omega | (simp; done) | (simp; omega))]; first | with_reducible assumption | (go_simp; done) | assumption | (simp [World.cell?]; done))
  have B0c2 : u1.cell? ⟨w.heap.size, 2, none⟩ = some (.slice la ln lc) := (by rw [(bcell hb).1 _ _ (by first | omega | (simp; done) | (simp; omega))]; first | with_reducible assumption | (go_simp; done) | assumption | (simp [World.cell?]; done))
  have B0c3 : u1.cell? ⟨w.heap.size, 3, none⟩ = some (.slice ga gn gc) := (by rw [(bcell hb).1 _ _ (by first | omega | (simp; done) | (simp; omega))]; first | with_reducible assumption | (go_simp; done) | assumption | (simp [World.cell?]; done))
  have B0c4 : u1.cell? ⟨w.heap.size, 4, none⟩ = some (.slice pa pn pc) := (by rw [(bcell hb).1 _ _ (by first | omega | (simp; done) | (simp; omega))]; first | with_reducible assumption | (go_simp; done) | assumption | (simp [World.cell?]; done))
  have B0p : w.heap.size < u1.heap.size := World.block_lt_of_cell? _ _ B0c0
  have B0s : w.heap.size < u1.heap.size := B0p
  replace DF0 : Hid (TrieA fz (lo) hi u1 ar a n c rows) := hid (beTrie DF0.out hc (by omega))
  replace DF1 : Hid (IntsA fz (lo) hi u1 la ln lc lw) := hid (beInts DF1.out hc (by omega))
  replace DF2 : Hid (IntsA fz (lo) hi u1 ga gn gc gh) := hid (beInts DF2.out hc (by omega))
  replace DF3 : Hid (IntsA fz (lo) hi u1 pa pn pc ps) := hid (beInts DF3.out hc (by omega))
  have HW := hid hc
  clear hb hc
  by_cases hsz0 : (rowsSz rows : Int) ≤ left
  · rw [szI_yes hsz0]
    obtain ⟨left0, hleft0⟩ : ∃ l, l = left - (rowsSz rows : Int) := ⟨_, rfl⟩
    rw [← hleft0]
    have hlo0 : 0 ≤ left0 := by omega
    have hhi0 : left0 ≤ 1048576 := by omega
    have HQ0 := hid (And.intro hsz0 hleft0); clear hsz0 hleft0
    go_wp2_with fail
    refine (szK_Ints la ln lc lw left0 _ (beInts (B := u1.heap.size) DF1.out (by repeat (first | with_reducible assumption | with_reducible exact Below.refl _ _ | with_reducible refine below_drewN ?_ _ | with_reducible refine Below.al ?_ (by first | with_reducible exact Nat.le_refl _ | omega | (simp; done) | (simp; omega) | exact Nat.le_refl _) _ | with_reducible refine Below.setCell ?_ (by first | with_reducible exact Nat.le_refl _ | omega | (simp; done) | (simp; omega) | exact Nat.le_refl _) _ | assumption | exact Below.refl _ _ | refine below_drewN ?_ _ | refine Below.al ?_ (by first | with_reducible exact Nat.le_refl _ | omega | (simp; done) | (simp; omega) | exact Nat.le_refl _) _ | refine Below.setCell ?_ (by first | with_reducible exact Nat.le_refl _ | omega | (simp; done) | (simp; omega) | exact Nat.le_refl _) _)) (by first | with_reducible exact Nat.le_refl _ | omega | (simp; done) | (simp; omega) | exact Nat.le_refl _)) (by omega) (by omega)).mono ?_
    rintro e u2 hg; obtain ⟨rfl, hb⟩ := Gives.leaves hg; clear hg
    have hc : Below u1.heap.size u1 u2 := Below.trans (by repeat (first | with_reducible assumption | with_reducible exact Below.refl _ _ | with_reducible refine below_drewN ?_ _ | with_reducible refine Below.al ?_ (by first | with_reducible exact Nat.le_refl _ | omega | (simp; done) | (simp; omega) | exact Nat.le_refl _) _ | with_reducible refine Below.setCell ?_ (by first | with_reducible exact Nat.le_refl _ | omega | (simp; done) | (simp; omega) | exact Nat.le_refl _) _ | assumption | exact Below.refl _ _ | refine below_drewN ?_ _ | refine Below.al ?_ (by first | with_reducible exact Nat.le_refl _ | omega | (simp; done) | (simp; omega) | exact Nat.le_refl _) _ | refine Below.setCell ?_ (by first | with_reducible exact Nat.le_refl _ | omega | (simp; done) | (simp; omega) | exact Nat.le_refl _) _)) (hb.mono (by first | with_reducible exact Nat.le_refl _ | omega | (simp; done) | (simp; omega) | exact Nat.le_refl _))
    have z2 : u1.heap.size ≤ u2.heap.size := hc.size
    replace B0c0 : u2.cell? ⟨w.heap.size, 0, none⟩ = some (.int .i64 ar) := (by rw [(bcell hc).1 _ _ B0s]; exact B0c0)
    replace B0c1 : u2.cell? ⟨w.heap.size, 1, none⟩ = some (.slice a n c) := (by rw [(bcell hc).1 _ _ B0s]; exact B0c1)
    replace B0c2 : u2.cell? ⟨w.heap.size, 2, none⟩ = some (.slice la ln lc) := (by rw [(bcell hc).1 _ _ B0s]; exact B0c2)
    replace B0c3 : u2.cell? ⟨w.heap.size, 3, none⟩ = some (.slice ga gn gc) := (by rw [(bcell hc).1 _ _ B0s]; exact B0c3)
    replace B0c4 : u2.cell? ⟨w.heap.size, 4, none⟩ = some (.slice pa pn pc) := (by rw [(bcell hc).1 _ _ B0s]; exact B0c4)
    replace B0s : w.heap.size < u2.heap.size := (by omega)
    replace DF0 : Hid (TrieA fz (lo) hi u2 ar a n c rows) := hid (beTrie DF0.out hc (by omega))
    replace DF1 : Hid (IntsA fz (lo) hi u2 la ln lc lw) := hid (beInts DF1.out hc (by omega))
    replace DF2 : Hid (IntsA fz (lo) hi u2 ga gn gc gh) := hid (beInts DF2.out hc (by omega))
    replace DF3 : Hid (IntsA fz (lo) hi u2 pa pn pc ps) := hid (beInts DF3.out hc (by omega))
    replace HW : Hid (Below w.heap.size w u2) := hid (Below.calm HW.out hc)
    clear hb hc
    by_cases hsz1 : (lw.length : Int) ≤ left0
    · rw [szI_yes hsz1]
      obtain ⟨left1, hleft1⟩ : ∃ l, l = left0 - (lw.length : Int) := ⟨_, rfl⟩
      rw [← hleft1]
      have hlo1 : 0 ≤ left1 := by omega
      have hhi1 : left1 ≤ 1048576 := by omega
      have HQ1 := hid (And.intro hsz1 hleft1); clear hsz1 hleft1
      go_wp2_with fail
      refine (szK_Ints ga gn gc gh left1 _ (beInts (B := u2.heap.size) DF2.out (by repeat (first | with_reducible assumption | with_reducible exact Below.refl _ _ | with_reducible refine below_drewN ?_ _ | with_reducible refine Below.al ?_ (by first | with_reducible exact Nat.le_refl _ | omega | (simp; done) | (simp; omega) | exact Nat.le_refl _) _ | with_reducible refine Below.setCell ?_ (by first | with_reducible exact Nat.le_refl _ | omega | (simp; done) | (simp; omega) | exact Nat.le_refl _) _ | assumption | exact Below.refl _ _ | refine below_drewN ?_ _ | refine Below.al ?_ (by first | with_reducible exact Nat.le_refl _ | omega | (simp; done) | (simp; omega) | exact Nat.le_refl _) _ | refine Below.setCell ?_ (by first | with_reducible exact Nat.le_refl _ | omega | (simp; done) | (simp; omega) | exact Nat.le_refl _) _)) (by first | with_reducible exact Nat.le_refl _ | omega | (simp; done) | (simp; omega) | exact Nat.le_refl _)) (by omega) (by omega)).mono ?_
      rintro e u3 hg; obtain ⟨rfl, hb⟩ := Gives.leaves hg; clear hg
      have hc : Below u2.heap.size u2 u3 := Below.trans (by repeat (first | with_reducible assumption | with_reducible exact Below.refl _ _ | with_reducible refine below_drewN ?_ _ | with_reducible refine Below.al ?_ (by first | with_reducible exact Nat.le_refl _ | omega | (simp; done) | (simp; omega) | exact Nat.le_refl _) _ | with_reducible refine Below.setCell ?_ (by first | with_reducible exact Nat.le_refl _ | omega | (simp; done) | (simp; omega) | exact Nat.le_refl _) _ | assumption | exact Below.refl _ _ | refine below_drewN ?_ _ | refine Below.al ?_ (by first | with_reducible exact Nat.le_refl _ | omega | (simp; done) | (simp; omega) | exact Nat.le_refl _) _ | refine Below.setCell ?_ (by first | with_reducible exact Nat.le_refl _ | omega | (simp; done) | (simp; omega) | exact Nat.le_refl _) _)) (hb.mono (by first | with_reducible exact Nat.le_refl _ | omega | (simp; done) | (simp; omega) | exact Nat.le_refl _))
      have z3 : u2.heap.size ≤ u3.heap.size := hc.size
      replace B0c0 : u3.cell? ⟨w.heap.size, 0, none⟩ = some (.int .i64 ar) := (by rw [(bcell hc).1 _ _ B0s]; exact B0c0)
      replace B0c1 : u3.cell? ⟨w.heap.size, 1, none⟩ = some (.slice a n c) := (by rw [(bcell hc).1 _ _ B0s]; exact B0c1)
      replace B0c2 : u3.cell? ⟨w.heap.size, 2, none⟩ = some (.slice la ln lc) := (by rw [(bcell hc).1 _ _ B0s]; exact B0c2)
      replace B0c3 : u3.cell? ⟨w.heap.size, 3, none⟩ = some (.slice ga gn gc) := (by rw [(bcell hc).1 _ _ B0s]; exact B0c3)
      replace B0c4 : u3.cell? ⟨w.heap.size, 4, none⟩ = some (.slice pa pn pc) := (by rw [(bcell hc).1 _ _ B0s]; exact B0c4)
      replace B0s : w.heap.size < u3.heap.size := (by omega)
      replace DF0 : Hid (TrieA fz (lo) hi u3 ar a n c rows) := hid (beTrie DF0.out hc (by omega))
      replace DF1 : Hid (IntsA fz (lo) hi u3 la ln lc lw) := hid (beInts DF1.out hc (by omega))
      replace DF2 : Hid (IntsA fz (lo) hi u3 ga gn gc gh) := hid (beInts DF2.out hc (by omega))
      replace DF3 : Hid (IntsA fz (lo) hi u3 pa pn pc ps) := hid (beInts DF3.out hc (by omega))
      replace HW : Hid (Below w.heap.size w u3) := hid (Below.calm HW.out hc)
      clear hb hc
      by_cases hsz2 : (gh.length : Int) ≤ left1
      · rw [szI_yes hsz2]
        obtain ⟨left2, hleft2⟩ : ∃ l, l = left1 - (gh.length : Int) := ⟨_, rfl⟩
        rw [← hleft2]
        have hlo2 : 0 ≤ left2 := by omega
        have hhi2 : left2 ≤ 1048576 := by omega
        have HQ2 := hid (And.intro hsz2 hleft2); clear hsz2 hleft2
        go_wp2_with fail
        refine (szK_Ints pa pn pc ps left2 _ (beInts (B := u3.heap.size) DF3.out (by repeat (first | with_reducible assumption | with_reducible exact Below.refl _ _ | with_reducible refine below_drewN ?_ _ | with_reducible refine Below.al ?_ (by first | with_reducible exact Nat.le_refl _ | omega | (simp; done) | (simp; omega) | exact Nat.le_refl _) _ | with_reducible refine Below.setCell ?_ (by first | with_reducible exact Nat.le_refl _ | omega | (simp; done) | (simp; omega) | exact Nat.le_refl _) _ | assumption | exact Below.refl _ _ | refine below_drewN ?_ _ | refine Below.al ?_ (by first | with_reducible exact Nat.le_refl _ | omega | (simp; done) | (simp; omega) | exact Nat.le_refl _) _ | refine Below.setCell ?_ (by first | with_reducible exact Nat.le_refl _ | omega | (simp; done) | (simp; omega) | exact Nat.le_refl _) _)) (by first | with_reducible exact Nat.le_refl _ | omega | (simp; done) | (simp; omega) | exact Nat.le_refl _)) (by omega) (by omega)).mono ?_
        rintro e u4 hg; obtain ⟨rfl, hb⟩ := Gives.leaves hg; clear hg
        have hc : Below u3.heap.size u3 u4 := Below.trans (by repeat (first | with_reducible assumption | with_reducible exact Below.refl _ _ | with_reducible refine below_drewN ?_ _ | with_reducible refine Below.al ?_ (by first | with_reducible exact Nat.le_refl _ | omega | (simp; done) | (simp; omega) | exact Nat.le_refl _) _ | with_reducible refine Below.setCell ?_ (by first | with_reducible exact Nat.le_refl _ | omega | (simp; done) | (simp; omega) | exact Nat.le_refl _) _ | assumption | exact Below.refl _ _ | refine below_drewN ?_ _ | refine Below.al ?_ (by first | with_reducible exact Nat.le_refl _ | omega | (simp; done) | (simp; omega) | exact Nat.le_refl _) _ | refine Below.setCell ?_ (by first | with_reducible exact Nat.le_refl _ | omega | (simp; done) | (simp; omega) | exact Nat.le_refl _) _)) (hb.mono (by first | with_reducible exact Nat.le_refl _ | omega | (simp; done) | (simp; omega) | exact Nat.le_refl _))
        have z4 : u3.heap.size ≤ u4.heap.size := hc.size
        replace B0c0 : u4.cell? ⟨w.heap.size, 0, none⟩ = some (.int .i64 ar) := (by rw [(bcell hc).1 _ _ B0s]; exact B0c0)
        replace B0c1 : u4.cell? ⟨w.heap.size, 1, none⟩ = some (.slice a n c) := (by rw [(bcell hc).1 _ _ B0s]; exact B0c1)
        replace B0c2 : u4.cell? ⟨w.heap.size, 2, none⟩ = some (.slice la ln lc) := (by rw [(bcell hc).1 _ _ B0s]; exact B0c2)
        replace B0c3 : u4.cell? ⟨w.heap.size, 3, none⟩ = some (.slice ga gn gc) := (by rw [(bcell hc).1 _ _ B0s]; exact B0c3)
        replace B0c4 : u4.cell? ⟨w.heap.size, 4, none⟩ = some (.slice pa pn pc) := (by rw [(bcell hc).1 _ _ B0s]; exact B0c4)
        replace B0s : w.heap.size < u4.heap.size := (by omega)
        replace DF0 : Hid (TrieA fz (lo) hi u4 ar a n c rows) := hid (beTrie DF0.out hc (by omega))
        replace DF1 : Hid (IntsA fz (lo) hi u4 la ln lc lw) := hid (beInts DF1.out hc (by omega))
        replace DF2 : Hid (IntsA fz (lo) hi u4 ga gn gc gh) := hid (beInts DF2.out hc (by omega))
        replace DF3 : Hid (IntsA fz (lo) hi u4 pa pn pc ps) := hid (beInts DF3.out hc (by omega))
        replace HW : Hid (Below w.heap.size w u4) := hid (Below.calm HW.out hc)
        clear hb hc
        by_cases hsz3 : (ps.length : Int) ≤ left2
        · rw [szI_yes hsz3]
          obtain ⟨left3, hleft3⟩ : ∃ l, l = left2 - (ps.length : Int) := ⟨_, rfl⟩
          rw [← hleft3]
          have hlo3 : 0 ≤ left3 := by omega
          have hhi3 : left3 ≤ 1048576 := by omega
          have HQ3 := hid (And.intro hsz3 hleft3); clear hsz3 hleft3
          have HE : Hid (szI (szIter rows lw gh ps) left = left3) := hid (by have g0 := HQ0.out; have g1 := HQ1.out; have g2 := HQ2.out; have g3 := HQ3.out; rw [szI_yes (by unfold szIter; omega)]; unfold szIter; omega)
          go_wp2_with fail
          go_ret
          exact ⟨by rw [HE.out]; rfl, HW.out⟩
        · rw [szI_no hsz3]
          have HQ3 := hid (szI_no (n := szIter rows lw gh ps) (left := left) (by unfold szIter; have := HQ0.out.2; have := HQ1.out.2; have := HQ2.out.2; omega)); clear hsz3
          go_wp2_with fail
          go_ret
          exact ⟨by rw [HQ3.out]; rfl, HW.out⟩
      · rw [szI_no hsz2]
        have HQ2 := hid (szI_no (n := szIter rows lw gh ps) (left := left) (by unfold szIter; have := HQ0.out.2; have := HQ1.out.2; omega)); clear hsz2
        go_wp2_with fail
        go_ret
        exact ⟨by rw [HQ2.out]; rfl, HW.out⟩
    · rw [szI_no hsz1]
      have HQ1 := hid (szI_no (n := szIter rows lw gh ps) (left := left) (by unfold szIter; have := HQ0.out.2; omega)); clear hsz1
      go_wp2_with fail
      go_ret
      exact ⟨by rw [HQ1.out]; rfl, HW.out⟩
  · rw [szI_no hsz0]
    have HQ0 := hid (szI_no (n := szIter rows lw gh ps) (left := left) (by unfold szIter;  omega)); clear hsz0
    go_wp2_with fail
    go_ret
    exact ⟨by rw [HQ0.out]; rfl, HW.out⟩
set_option maxHeartbeats 1600000 in
theorem eqK_Iter {fz fz' : Bool} {lo hi lo' hi' : Nat} (ar : Int) (a : Option Addr) (n : Nat) (c : Nat) (rows : List (List Int)) (la : Option Addr) (ln : Nat) (lc : Nat) (lw : List Int) (ga : Option Addr) (gn : Nat) (gc : Nat) (gh : List Int) (pa : Option Addr) (pn : Nat) (pc : Nat) (ps : List Int) (a_ : Option Addr) (n_ : Nat) (c_ : Nat) (la_ : Option Addr) (ln_ : Nat) (lc_ : Nat) (ga_ : Option Addr) (gn_ : Nat) (gc_ : Nat) (pa_ : Option Addr) (pn_ : Nat) (pc_ : Nat) (w : World) (hI : IterA fz lo hi w ar a n c rows la ln lc lw ga gn gc gh pa pn pc ps) (hh : hi ≤ w.heap.size) (hJ : IterA fz' lo' hi' w ar a_ n_ c_ rows la_ ln_ lc_ lw ga_ gn_ gc_ gh pa_ pn_ pc_ ps) (hh' : hi' ≤ w.heap.size) :
    Calls Try.prog 12 #[iterV ar a n c la ln lc ga gn gc pa pn pc, iterV ar a_ n_ c_ la_ ln_ lc_ ga_ gn_ gc_ pa_ pn_ pc_] w (Leaves w (.bool true)) := by
  have DF0 := hid hI.1
  have DG0 := hid hJ.1
  have DF1 := hid hI.2.1
  have DG1 := hid hJ.2.1
  have DF2 := hid hI.2.2.1
  have DG2 := hid hJ.2.2.1
  have DF3 := hid hI.2.2.2
  have DG3 := hid hJ.2.2.2
  clear hI hJ
  go_enter Try.func12, Try.ntmps12
  go_wp2_with fail
  refine (eqK_Trie ar a a_ n c n_ c_ rows _ (beTrie (B := w.heap.size) DF0.out (by repeat (first | with_reducible assumption | with_reducible exact Below.refl _ _ | with_reducible refine below_drewN ?_ _ | with_reducible refine Below.al ?_ (by first | with_reducible exact Nat.le_refl _ | omega | (simp; done) | (simp; omega) | exact Nat.le_refl _) _ | with_reducible refine Below.setCell ?_ (by first | with_reducible exact Nat.le_refl _ | omega | (simp; done) | (simp; omega) | exact Nat.le_refl _) _ | assumption | exact Below.refl _ _ | refine below_drewN ?_ _ | refine Below.al ?_ (by first | with_reducible exact Nat.le_refl _ | omega | (simp; done) | (simp; omega) | exact Nat.le_refl _) _ | refine Below.setCell ?_ (by first | with_reducible exact Nat.le_refl _ | omega | (simp; done) | (simp; omega) | exact Nat.le_refl _) _)) (by first | with_reducible exact Nat.le_refl _ | omega | (simp; done) | (simp; omega) | exact Nat.le_refl _)) (by first | with_reducible exact Nat.le_refl _ | omega | (simp; done) | (simp; omega) | exact Nat.le_refl _) (beTrie (B := w.heap.size) DG0.out (by repeat (first | with_reducible assumption | with_reducible exact Below.refl _ _ | with_reducible refine below_drewN ?_ _ | with_reducible refine Below.al ?_ (by first | with_reducible exact Nat.le_refl _ | omega | (simp; done) | (simp; omega) | exact Nat.le_refl _) _ | with_reducible refine Below.setCell ?_ (by first | with_reducible exact Nat.le_refl _ | omega | (simp; done) | (simp; omega) | exact Nat.le_refl _) _ | assumption | exact Below.refl _ _ | refine below_drewN ?_ _ | refine Below.al ?_ (by first | with_reducible exact Nat.le_refl _ | omega | (simp; done) | (simp; omega) | exact Nat.le_refl _) _ | refine Below.setCell ?_ (by first | with_reducible exact Nat.le_refl _ | omega | (simp; done) | (simp; omega) | exact Nat.le_refl _) _)) (by first | with_reducible exact Nat.le_refl _ | omega | (simp; done) | (simp; omega) | exact Nat.le_refl _)) (by first | with_reducible exact Nat.le_refl _ | omega | (simp; done) | (simp; omega) | exact Nat.le_refl _)).mono ?_
  rintro e u1 ⟨rfl, hb⟩
  have hc : Below w.heap.size w u1 := Below.trans (by repeat (first | with_reducible assumption | with_reducible exact Below.refl _ _ | with_reducible refine below_drewN ?_ _ | with_reducible refine Below.al ?_ (by first | with_reducible exact Nat.le_refl _ | omega | (simp; done) | (simp; omega) | exact Nat.le_refl _) _ | with_reducible refine Below.setCell ?_ (by first | with_reducible exact Nat.le_refl _ | omega | (simp; done) | (simp; omega) | exact Nat.le_refl _) _ | assumption | exact Below.refl _ _ | refine below_drewN ?_ _ | refine Below.al ?_ (by first | with_reducible exact Nat.le_refl _ | omega | (simp; done) | (simp; omega) | exact Nat.le_refl _) _ | refine Below.setCell ?_ (by first | with_reducible exact Nat.le_refl _ | omega | (simp; done) | (simp; omega) | exact Nat.le_refl _) _)) (hb.mono (by first | with_reducible exact Nat.le_refl _ | omega | (simp; done) | (simp; omega) | exact Nat.le_refl _))
  have z1 : w.heap.size ≤ u1.heap.size := hc.size
  have B0c0 : u1.cell? ⟨w.heap.size, 0, none⟩ = some (.int .i64 ar) := (by rw [(bcell hb).1 _ _ (by first | omega | (simp; done) | (simp; omega))]; first | with_reducible assumption | (go_simp; done) | assumption | (simp [World.cell?]; done))
  have B0c1 : u1.cell? ⟨w.heap.size, 1, none⟩ = some (.slice a n c) := (by rw [(bcell hb).1 _ _ (by first | omega | (simp; done) | (simp; omega))]; first | with_reducible assumption | (go_simp; done) | assumption | (simp [World.cell?]; done))
  have B0c2 : u1.cell? ⟨w.heap.size, 2, none⟩ = some (.slice la ln lc) := (by rw [(bcell hb).1 _ _ (by first | omega | (simp; done) | (simp; omega))]; first | with_reducible assumption | (go_simp; done) | assumption | (simp [World.cell?]; done))
  have B0c3 : u1.cell? ⟨w.heap.size, 3, none⟩ = some (.slice ga gn gc) := (by rw [(bcell hb).1 _ _ (by first | omega | (simp; done) | (simp; omega))]; first | with_reducible assumption | (go_simp; done) | assumption | (simp [World.cell?]; done))
  have B0c4 : u1.cell? ⟨w.heap.size, 4, none⟩ = some (.slice pa pn pc) := (by rw [(bcell hb).1 _ _ (by first | omega | (simp; done) | (simp; omega))]; first | with_reducible assumption | (go_simp; done) | assumption | (simp [World.cell?]; done))
  have B0p : w.heap.size < u1.heap.size := World.block_lt_of_cell? _ _ B0c0
  have B0s : w.heap.size < u1.heap.size := B0p
  have B1c0 : u1.cell? ⟨w.heap.size + 1, 0, none⟩ = some (.int .i64 ar) := (by rw [(bcell hb).1 _ _ (by first | omega | (simp; done) | (simp; omega))]; first | with_reducible assumption | (go_simp; done) | assumption | (simp [World.cell?]; done))
  have B1c1 : u1.cell? ⟨w.heap.size + 1, 1, none⟩ = some (.slice a_ n_ c_) := (by rw [(bcell hb).1 _ _ (by first | omega | (simp; done) | (simp; omega))]; first | with_reducible assumption | (go_simp; done) | assumption | (simp [World.cell?]; done))
  have B1c2 : u1.cell? ⟨w.heap.size + 1, 2, none⟩ = some (.slice la_ ln_ lc_) := (by rw [(bcell hb).1 _ _ (by first | omega | (simp; done) | (simp; omega))]; first | with_reducible assumption | (go_simp; done) | assumption | (simp [World.cell?]; done))
  have B1c3 : u1.cell? ⟨w.heap.size + 1, 3, none⟩ = some (.slice ga_ gn_ gc_) := (by rw [(bcell hb).1 _ _ (by first | omega | (simp; done) | (simp; omega))]; first | with_reducible assumption | (go_simp; done) | assumption | (simp [World.cell?]; done))
  have B1c4 : u1.cell? ⟨w.heap.size + 1, 4, none⟩ = some (.slice pa_ pn_ pc_) := (by rw [(bcell hb).1 _ _ (by first | omega | (simp; done) | (simp; omega))]; first | with_reducible assumption | (go_simp; done) | assumption | (simp [World.cell?]; done))
  have B1p : w.heap.size + 1 < u1.heap.size := World.block_lt_of_cell? _ _ B1c0
  have B1s : w.heap.size + 1 < u1.heap.size := B1p
  replace DF0 : Hid (TrieA fz (lo) hi u1 ar a n c rows) := hid (beTrie DF0.out hc (by omega))
  replace DG0 : Hid (TrieA fz' (lo') hi' u1 ar a_ n_ c_ rows) := hid (beTrie DG0.out hc (by omega))
  replace DF1 : Hid (IntsA fz (lo) hi u1 la ln lc lw) := hid (beInts DF1.out hc (by omega))
  replace DG1 : Hid (IntsA fz' (lo') hi' u1 la_ ln_ lc_ lw) := hid (beInts DG1.out hc (by omega))
  replace DF2 : Hid (IntsA fz (lo) hi u1 ga gn gc gh) := hid (beInts DF2.out hc (by omega))
  replace DG2 : Hid (IntsA fz' (lo') hi' u1 ga_ gn_ gc_ gh) := hid (beInts DG2.out hc (by omega))
  replace DF3 : Hid (IntsA fz (lo) hi u1 pa pn pc ps) := hid (beInts DF3.out hc (by omega))
  replace DG3 : Hid (IntsA fz' (lo') hi' u1 pa_ pn_ pc_ ps) := hid (beInts DG3.out hc (by omega))
  have HW := hid hc
  clear hb hc
  go_wp2_with fail
  refine (eqK_Ints la la_ ln lc ln_ lc_ lw _ (beInts (B := u1.heap.size) DF1.out (by repeat (first | with_reducible assumption | with_reducible exact Below.refl _ _ | with_reducible refine below_drewN ?_ _ | with_reducible refine Below.al ?_ (by first | with_reducible exact Nat.le_refl _ | omega | (simp; done) | (simp; omega) | exact Nat.le_refl _) _ | with_reducible refine Below.setCell ?_ (by first | with_reducible exact Nat.le_refl _ | omega | (simp; done) | (simp; omega) | exact Nat.le_refl _) _ | assumption | exact Below.refl _ _ | refine below_drewN ?_ _ | refine Below.al ?_ (by first | with_reducible exact Nat.le_refl _ | omega | (simp; done) | (simp; omega) | exact Nat.le_refl _) _ | refine Below.setCell ?_ (by first | with_reducible exact Nat.le_refl _ | omega | (simp; done) | (simp; omega) | exact Nat.le_refl _) _)) (by first | with_reducible exact Nat.le_refl _ | omega | (simp; done) | (simp; omega) | exact Nat.le_refl _)) (beInts (B := u1.heap.size) DG1.out (by repeat (first | with_reducible assumption | with_reducible exact Below.refl _ _ | with_reducible refine below_drewN ?_ _ | with_reducible refine Below.al ?_ (by first | with_reducible exact Nat.le_refl _ | omega | (simp; done) | (simp; omega) | exact Nat.le_refl _) _ | with_reducible refine Below.setCell ?_ (by first | with_reducible exact Nat.le_refl _ | omega | (simp; done) | (simp; omega) | exact Nat.le_refl _) _ | assumption | exact Below.refl _ _ | refine below_drewN ?_ _ | refine Below.al ?_ (by first | with_reducible exact Nat.le_refl _ | omega | (simp; done) | (simp; omega) | exact Nat.le_refl _) _ | refine Below.setCell ?_ (by first | with_reducible exact Nat.le_refl _ | omega | (simp; done) | (simp; omega) | exact Nat.le_refl _) _)) (by first | with_reducible exact Nat.le_refl _ | omega | (simp; done) | (simp; omega) | exact Nat.le_refl _))).mono ?_
  rintro e u2 hg; obtain ⟨rfl, hb⟩ := Gives.leaves hg; clear hg
  have hc : Below u1.heap.size u1 u2 := Below.trans (by repeat (first | with_reducible assumption | with_reducible exact Below.refl _ _ | with_reducible refine below_drewN ?_ _ | with_reducible refine Below.al ?_ (by first | with_reducible exact Nat.le_refl _ | omega | (simp; done) | (simp; omega) | exact Nat.le_refl _) _ | with_reducible refine Below.setCell ?_ (by first | with_reducible exact Nat.le_refl _ | omega | (simp; done) | (simp; omega) | exact Nat.le_refl _) _ | assumption | exact Below.refl _ _ | refine below_drewN ?_ _ | refine Below.al ?_ (by first | with_reducible exact Nat.le_refl _ | omega | (simp; done) | (simp; omega) | exact Nat.le_refl _) _ | refine Below.setCell ?_ (by first | with_reducible exact Nat.le_refl _ | omega | (simp; done) | (simp; omega) | exact Nat.le_refl _) _)) (hb.mono (by first | with_reducible exact Nat.le_refl _ | omega | (simp; done) | (simp; omega) | exact Nat.le_refl _))
  have z2 : u1.heap.size ≤ u2.heap.size := hc.size
  replace B0c0 : u2.cell? ⟨w.heap.size, 0, none⟩ = some (.int .i64 ar) := (by rw [(bcell hc).1 _ _ B0s]; exact B0c0)
  replace B0c1 : u2.cell? ⟨w.heap.size, 1, none⟩ = some (.slice a n c) := (by rw [(bcell hc).1 _ _ B0s]; exact B0c1)
  replace B0c2 : u2.cell? ⟨w.heap.size, 2, none⟩ = some (.slice la ln lc) := (by rw [(bcell hc).1 _ _ B0s]; exact B0c2)
  replace B0c3 : u2.cell? ⟨w.heap.size, 3, none⟩ = some (.slice ga gn gc) := (by rw [(bcell hc).1 _ _ B0s]; exact B0c3)
  replace B0c4 : u2.cell? ⟨w.heap.size, 4, none⟩ = some (.slice pa pn pc) := (by rw [(bcell hc).1 _ _ B0s]; exact B0c4)
  replace B0s : w.heap.size < u2.heap.size := (by omega)
  replace B1c0 : u2.cell? ⟨w.heap.size + 1, 0, none⟩ = some (.int .i64 ar) := (by rw [(bcell hc).1 _ _ B1s]; exact B1c0)
  replace B1c1 : u2.cell? ⟨w.heap.size + 1, 1, none⟩ = some (.slice a_ n_ c_) := (by rw [(bcell hc).1 _ _ B1s]; exact B1c1)
  replace B1c2 : u2.cell? ⟨w.heap.size + 1, 2, none⟩ = some (.slice la_ ln_ lc_) := (by rw [(bcell hc).1 _ _ B1s]; exact B1c2)
  replace B1c3 : u2.cell? ⟨w.heap.size + 1, 3, none⟩ = some (.slice ga_ gn_ gc_) := (by rw [(bcell hc).1 _ _ B1s]; exact B1c3)
  replace B1c4 : u2.cell? ⟨w.heap.size + 1, 4, none⟩ = some (.slice pa_ pn_ pc_) := (by rw [(bcell hc).1 _ _ B1s]; exact B1c4)
  replace B1s : w.heap.size + 1 < u2.heap.size := (by omega)
  replace DF0 : Hid (TrieA fz (lo) hi u2 ar a n c rows) := hid (beTrie DF0.out hc (by omega))
  replace DG0 : Hid (TrieA fz' (lo') hi' u2 ar a_ n_ c_ rows) := hid (beTrie DG0.out hc (by omega))
  replace DF1 : Hid (IntsA fz (lo) hi u2 la ln lc lw) := hid (beInts DF1.out hc (by omega))
  replace DG1 : Hid (IntsA fz' (lo') hi' u2 la_ ln_ lc_ lw) := hid (beInts DG1.out hc (by omega))
  replace DF2 : Hid (IntsA fz (lo) hi u2 ga gn gc gh) := hid (beInts DF2.out hc (by omega))
  replace DG2 : Hid (IntsA fz' (lo') hi' u2 ga_ gn_ gc_ gh) := hid (beInts DG2.out hc (by omega))
  replace DF3 : Hid (IntsA fz (lo) hi u2 pa pn pc ps) := hid (beInts DF3.out hc (by omega))
  replace DG3 : Hid (IntsA fz' (lo') hi' u2 pa_ pn_ pc_ ps) := hid (beInts DG3.out hc (by omega))
  replace HW : Hid (Below w.heap.size w u2) := hid (Below.calm HW.out hc)
  clear hb hc
  go_wp2_with fail
  refine (eqK_Ints ga ga_ gn gc gn_ gc_ gh _ (beInts (B := u2.heap.size) DF2.out (by repeat (first | with_reducible assumption | with_reducible exact Below.refl _ _ | with_reducible refine below_drewN ?_ _ | with_reducible refine Below.al ?_ (by first | with_reducible exact Nat.le_refl _ | omega | (simp; done) | (simp; omega) | exact Nat.le_refl _) _ | with_reducible refine Below.setCell ?_ (by first | with_reducible exact Nat.le_refl _ | omega | (simp; done) | (simp; omega) | exact Nat.le_refl _) _ | assumption | exact Below.refl _ _ | refine below_drewN ?_ _ | refine Below.al ?_ (by first | with_reducible exact Nat.le_refl _ | omega | (simp; done) | (simp; omega) | exact Nat.le_refl _) _ | refine Below.setCell ?_ (by first | with_reducible exact Nat.le_refl _ | omega | (simp; done) | (simp; omega) | exact Nat.le_refl _) _)) (by first | with_reducible exact Nat.le_refl _ | omega | (simp; done) | (simp; omega) | exact Nat.le_refl _)) (beInts (B := u2.heap.size) DG2.out (by repeat (first | with_reducible assumption | with_reducible exact Below.refl _ _ | with_reducible refine below_drewN ?_ _ | with_reducible refine Below.al ?_ (by first | with_reducible exact Nat.le_refl _ | omega | (simp; done) | (simp; omega) | exact Nat.le_refl _) _ | with_reducible refine Below.setCell ?_ (by first | with_reducible exact Nat.le_refl _ | omega | (simp; done) | (simp; omega) | exact Nat.le_refl _) _ | assumption | exact Below.refl _ _ | refine below_drewN ?_ _ | refine Below.al ?_ (by first | with_reducible exact Nat.le_refl _ | omega | (simp; done) | (simp; omega) | exact Nat.le_refl _) _ | refine Below.setCell ?_ (by first | with_reducible exact Nat.le_refl _ | omega | (simp; done) | (simp; omega) | exact Nat.le_refl _) _)) (by first | with_reducible exact Nat.le_refl _ | omega | (simp; done) | (simp; omega) | exact Nat.le_refl _))).mono ?_
  rintro e u3 hg; obtain ⟨rfl, hb⟩ := Gives.leaves hg; clear hg
  have hc : Below u2.heap.size u2 u3 := Below.trans (by repeat (first | with_reducible assumption | with_reducible exact Below.refl _ _ | with_reducible refine below_drewN ?_ _ | with_reducible refine Below.al ?_ (by first | with_reducible exact Nat.le_refl _ | omega | (simp; done) | (simp; omega) | exact Nat.le_refl _) _ | with_reducible refine Below.setCell ?_ (by first | with_reducible exact Nat.le_refl _ | omega | (simp; done) | (simp; omega) | exact Nat.le_refl _) _ | assumption | exact Below.refl _ _ | refine below_drewN ?_ _ | refine Below.al ?_ (by first | with_reducible exact Nat.le_refl _ | omega | (simp; done) | (simp; omega) | exact Nat.le_refl _) _ | refine Below.setCell ?_ (by first | with_reducible exact Nat.le_refl _ | omega | (simp; done) | (simp; omega) | exact Nat.le_refl _) _)) (hb.mono (by first | with_reducible exact Nat.le_refl _ | omega | (simp; done) | (simp; omega) | exact Nat.le_refl _))
  have z3 : u2.heap.size ≤ u3.heap.size := hc.size
  replace B0c0 : u3.cell? ⟨w.heap.size, 0, none⟩ = some (.int .i64 ar) := (by rw [(bcell hc).1 _ _ B0s]; exact B0c0)
  replace B0c1 : u3.cell? ⟨w.heap.size, 1, none⟩ = some (.slice a n c) := (by rw [(bcell hc).1 _ _ B0s]; exact B0c1)
  replace B0c2 : u3.cell? ⟨w.heap.size, 2, none⟩ = some (.slice la ln lc) := (by rw [(bcell hc).1 _ _ B0s]; exact B0c2)
  replace B0c3 : u3.cell? ⟨w.heap.size, 3, none⟩ = some (.slice ga gn gc) := (by rw [(bcell hc).1 _ _ B0s]; exact B0c3)
  replace B0c4 : u3.cell? ⟨w.heap.size, 4, none⟩ = some (.slice pa pn pc) := (by rw [(bcell hc).1 _ _ B0s]; exact B0c4)
  replace B0s : w.heap.size < u3.heap.size := (by omega)
  replace B1c0 : u3.cell? ⟨w.heap.size + 1, 0, none⟩ = some (.int .i64 ar) := (by rw [(bcell hc).1 _ _ B1s]; exact B1c0)
  replace B1c1 : u3.cell? ⟨w.heap.size + 1, 1, none⟩ = some (.slice a_ n_ c_) := (by rw [(bcell hc).1 _ _ B1s]; exact B1c1)
  replace B1c2 : u3.cell? ⟨w.heap.size + 1, 2, none⟩ = some (.slice la_ ln_ lc_) := (by rw [(bcell hc).1 _ _ B1s]; exact B1c2)
  replace B1c3 : u3.cell? ⟨w.heap.size + 1, 3, none⟩ = some (.slice ga_ gn_ gc_) := (by rw [(bcell hc).1 _ _ B1s]; exact B1c3)
  replace B1c4 : u3.cell? ⟨w.heap.size + 1, 4, none⟩ = some (.slice pa_ pn_ pc_) := (by rw [(bcell hc).1 _ _ B1s]; exact B1c4)
  replace B1s : w.heap.size + 1 < u3.heap.size := (by omega)
  replace DF0 : Hid (TrieA fz (lo) hi u3 ar a n c rows) := hid (beTrie DF0.out hc (by omega))
  replace DG0 : Hid (TrieA fz' (lo') hi' u3 ar a_ n_ c_ rows) := hid (beTrie DG0.out hc (by omega))
  replace DF1 : Hid (IntsA fz (lo) hi u3 la ln lc lw) := hid (beInts DF1.out hc (by omega))
  replace DG1 : Hid (IntsA fz' (lo') hi' u3 la_ ln_ lc_ lw) := hid (beInts DG1.out hc (by omega))
  replace DF2 : Hid (IntsA fz (lo) hi u3 ga gn gc gh) := hid (beInts DF2.out hc (by omega))
  replace DG2 : Hid (IntsA fz' (lo') hi' u3 ga_ gn_ gc_ gh) := hid (beInts DG2.out hc (by omega))
  replace DF3 : Hid (IntsA fz (lo) hi u3 pa pn pc ps) := hid (beInts DF3.out hc (by omega))
  replace DG3 : Hid (IntsA fz' (lo') hi' u3 pa_ pn_ pc_ ps) := hid (beInts DG3.out hc (by omega))
  replace HW : Hid (Below w.heap.size w u3) := hid (Below.calm HW.out hc)
  clear hb hc
  go_wp2_with fail
  refine (eqK_Ints pa pa_ pn pc pn_ pc_ ps _ (beInts (B := u3.heap.size) DF3.out (by repeat (first | with_reducible assumption | with_reducible exact Below.refl _ _ | with_reducible refine below_drewN ?_ _ | with_reducible refine Below.al ?_ (by first | with_reducible exact Nat.le_refl _ | omega | (simp; done) | (simp; omega) | exact Nat.le_refl _) _ | with_reducible refine Below.setCell ?_ (by first | with_reducible exact Nat.le_refl _ | omega | (simp; done) | (simp; omega) | exact Nat.le_refl _) _ | assumption | exact Below.refl _ _ | refine below_drewN ?_ _ | refine Below.al ?_ (by first | with_reducible exact Nat.le_refl _ | omega | (simp; done) | (simp; omega) | exact Nat.le_refl _) _ | refine Below.setCell ?_ (by first | with_reducible exact Nat.le_refl _ | omega | (simp; done) | (simp; omega) | exact Nat.le_refl _) _)) (by first | with_reducible exact Nat.le_refl _ | omega | (simp; done) | (simp; omega) | exact Nat.le_refl _)) (beInts (B := u3.heap.size) DG3.out (by repeat (first | with_reducible assumption | with_reducible exact Below.refl _ _ | with_reducible refine below_drewN ?_ _ | with_reducible refine Below.al ?_ (by first | with_reducible exact Nat.le_refl _ | omega | (simp; done) | (simp; omega) | exact Nat.le_refl _) _ | with_reducible refine Below.setCell ?_ (by first | with_reducible exact Nat.le_refl _ | omega | (simp; done) | (simp; omega) | exact Nat.le_refl _) _ | assumption | exact Below.refl _ _ | refine below_drewN ?_ _ | refine Below.al ?_ (by first | with_reducible exact Nat.le_refl _ | omega | (simp; done) | (simp; omega) | exact Nat.le_refl _) _ | refine Below.setCell ?_ (by first | with_reducible exact Nat.le_refl _ | omega | (simp; done) | (simp; omega) | exact Nat.le_refl _) _)) (by first | with_reducible exact Nat.le_refl _ | omega | (simp; done) | (simp; omega) | exact Nat.le_refl _))).mono ?_
  rintro e u4 hg; obtain ⟨rfl, hb⟩ := Gives.leaves hg; clear hg
  have hc : Below u3.heap.size u3 u4 := Below.trans (by repeat (first | with_reducible assumption | with_reducible exact Below.refl _ _ | with_reducible refine below_drewN ?_ _ | with_reducible refine Below.al ?_ (by first | with_reducible exact Nat.le_refl _ | omega | (simp; done) | (simp; omega) | exact Nat.le_refl _) _ | with_reducible refine Below.setCell ?_ (by first | with_reducible exact Nat.le_refl _ | omega | (simp; done) | (simp; omega) | exact Nat.le_refl _) _ | assumption | exact Below.refl _ _ | refine below_drewN ?_ _ | refine Below.al ?_ (by first | with_reducible exact Nat.le_refl _ | omega | (simp; done) | (simp; omega) | exact Nat.le_refl _) _ | refine Below.setCell ?_ (by first | with_reducible exact Nat.le_refl _ | omega | (simp; done) | (simp; omega) | exact Nat.le_refl _) _)) (hb.mono (by first | with_reducible exact Nat.le_refl _ | omega | (simp; done) | (simp; omega) | exact Nat.le_refl _))
  have z4 : u3.heap.size ≤ u4.heap.size := hc.size
  replace B0c0 : u4.cell? ⟨w.heap.size, 0, none⟩ = some (.int .i64 ar) := (by rw [(bcell hc).1 _ _ B0s]; exact B0c0)
  replace B0c1 : u4.cell? ⟨w.heap.size, 1, none⟩ = some (.slice a n c) := (by rw [(bcell hc).1 _ _ B0s]; exact B0c1)
  replace B0c2 : u4.cell? ⟨w.heap.size, 2, none⟩ = some (.slice la ln lc) := (by rw [(bcell hc).1 _ _ B0s]; exact B0c2)
  replace B0c3 : u4.cell? ⟨w.heap.size, 3, none⟩ = some (.slice ga gn gc) := (by rw [(bcell hc).1 _ _ B0s]; exact B0c3)
  replace B0c4 : u4.cell? ⟨w.heap.size, 4, none⟩ = some (.slice pa pn pc) := (by rw [(bcell hc).1 _ _ B0s]; exact B0c4)
  replace B0s : w.heap.size < u4.heap.size := (by omega)
  replace B1c0 : u4.cell? ⟨w.heap.size + 1, 0, none⟩ = some (.int .i64 ar) := (by rw [(bcell hc).1 _ _ B1s]; exact B1c0)
  replace B1c1 : u4.cell? ⟨w.heap.size + 1, 1, none⟩ = some (.slice a_ n_ c_) := (by rw [(bcell hc).1 _ _ B1s]; exact B1c1)
  replace B1c2 : u4.cell? ⟨w.heap.size + 1, 2, none⟩ = some (.slice la_ ln_ lc_) := (by rw [(bcell hc).1 _ _ B1s]; exact B1c2)
  replace B1c3 : u4.cell? ⟨w.heap.size + 1, 3, none⟩ = some (.slice ga_ gn_ gc_) := (by rw [(bcell hc).1 _ _ B1s]; exact B1c3)
  replace B1c4 : u4.cell? ⟨w.heap.size + 1, 4, none⟩ = some (.slice pa_ pn_ pc_) := (by rw [(bcell hc).1 _ _ B1s]; exact B1c4)
  replace B1s : w.heap.size + 1 < u4.heap.size := (by omega)
  replace DF0 : Hid (TrieA fz (lo) hi u4 ar a n c rows) := hid (beTrie DF0.out hc (by omega))
  replace DG0 : Hid (TrieA fz' (lo') hi' u4 ar a_ n_ c_ rows) := hid (beTrie DG0.out hc (by omega))
  replace DF1 : Hid (IntsA fz (lo) hi u4 la ln lc lw) := hid (beInts DF1.out hc (by omega))
  replace DG1 : Hid (IntsA fz' (lo') hi' u4 la_ ln_ lc_ lw) := hid (beInts DG1.out hc (by omega))
  replace DF2 : Hid (IntsA fz (lo) hi u4 ga gn gc gh) := hid (beInts DF2.out hc (by omega))
  replace DG2 : Hid (IntsA fz' (lo') hi' u4 ga_ gn_ gc_ gh) := hid (beInts DG2.out hc (by omega))
  replace DF3 : Hid (IntsA fz (lo) hi u4 pa pn pc ps) := hid (beInts DF3.out hc (by omega))
  replace DG3 : Hid (IntsA fz' (lo') hi' u4 pa_ pn_ pc_ ps) := hid (beInts DG3.out hc (by omega))
  replace HW : Hid (Below w.heap.size w u4) := hid (Below.calm HW.out hc)
  clear hb hc
  go_wp2_with fail
  go_ret
  exact ⟨rfl, HW.out⟩
def cntIter (rows : List (List Int)) (lw : List Int) (gh : List Int) (ps : List Int) : Nat := lens rows rows.length + lw.length + gh.length + ps.length
set_option maxHeartbeats 1600000 in
theorem markK_Iter {lo hi : Nat} (ar : Int) (a : Option Addr) (n : Nat) (c : Nat) (rows : List (List Int)) (la : Option Addr) (ln : Nat) (lc : Nat) (lw : List Int) (ga : Option Addr) (gn : Nat) (gc : Nat) (gh : List Int) (pa : Option Addr) (pn : Nat) (pc : Nat) (ps : List Int) (k : Int) (w : World) (hI : IterA true lo hi w ar a n c rows la ln lc lw ga gn gc gh pa pn pc ps) (hh : hi ≤ w.heap.size) (h0 : 0 ≤ k) (h1 : k ≤ 2097152) (hs : szIter rows lw gh ps ≤ 1048576) :
    Calls Try.prog 15 #[iterV ar a n c la ln lc ga gn gc pa pn pc, .int .i64 k] w (GivesMG lo hi w (k + (cntIter rows lw gh ps : Nat))) := by
  have hcl0 : lens rows rows.length ≤ rowsSz rows := by unfold rowsSz; omega
  have hsb0 : rowsSz rows ≤ 1048576 := by unfold szIter at hs; omega
  have DF0 := hid hI.1
  have hcl1 : lw.length ≤ lw.length := Nat.le_refl _
  have hsb1 : lw.length ≤ 1048576 := by unfold szIter at hs; omega
  have DF1 := hid hI.2.1
  have hcl2 : gh.length ≤ gh.length := Nat.le_refl _
  have hsb2 : gh.length ≤ 1048576 := by unfold szIter at hs; omega
  have DF2 := hid hI.2.2.1
  have hcl3 : ps.length ≤ ps.length := Nat.le_refl _
  have hsb3 : ps.length ≤ 1048576 := by unfold szIter at hs; omega
  have DF3 := hid hI.2.2.2
  clear hI
  have hct : cntIter rows lw gh ps ≤ 1048576 := by unfold cntIter; unfold szIter at hs; omega
  clear hs
  obtain ⟨k0, hk0⟩ : ∃ x : Int, x = k + (lens rows rows.length : Nat) := ⟨_, rfl⟩
  obtain ⟨k1, hk1⟩ : ∃ x : Int, x = k0 + (lw.length : Nat) := ⟨_, rfl⟩
  obtain ⟨k2, hk2⟩ : ∃ x : Int, x = k1 + (gh.length : Nat) := ⟨_, rfl⟩
  obtain ⟨k3, hk3⟩ : ∃ x : Int, x = k2 + (ps.length : Nat) := ⟨_, rfl⟩
  have HE : Hid (k3 = k + (cntIter rows lw gh ps : Nat)) := hid (by unfold cntIter; omega)
  have hb0 : 0 ≤ k0 ∧ k0 ≤ 3145728 := by unfold cntIter at hct; omega
  have hb1 : 0 ≤ k1 ∧ k1 ≤ 3145728 := by unfold cntIter at hct; omega
  have hb2 : 0 ≤ k2 ∧ k2 ≤ 3145728 := by unfold cntIter at hct; omega
  have hb3 : 0 ≤ k3 ∧ k3 ≤ 3145728 := by unfold cntIter at hct; omega
  have HK0 := hid hk0; have HS0 := hid hsb0; clear hk0 hcl0 hsb0
  have HK1 := hid hk1; have HS1 := hid hsb1; clear hk1 hcl1 hsb1
  have HK2 := hid hk2; have HS2 := hid hsb2; clear hk2 hcl2 hsb2
  have HK3 := hid hk3; have HS3 := hid hsb3; clear hk3 hcl3 hsb3
  clear hct
  go_enter Try.func15, Try.ntmps15
  go_wp2_with fail
  refine (markK_Trie ar a n c rows k _ (beTrie (B := w.heap.size) DF0.out (by repeat (first | with_reducible assumption | with_reducible exact Below.refl _ _ | with_reducible refine below_drewN ?_ _ | with_reducible refine Below.al ?_ (by first | with_reducible exact Nat.le_refl _ | omega | (simp; done) | (simp; omega) | exact Nat.le_refl _) _ | with_reducible refine Below.setCell ?_ (by first | with_reducible exact Nat.le_refl _ | omega | (simp; done) | (simp; omega) | exact Nat.le_refl _) _ | assumption | exact Below.refl _ _ | refine below_drewN ?_ _ | refine Below.al ?_ (by first | with_reducible exact Nat.le_refl _ | omega | (simp; done) | (simp; omega) | exact Nat.le_refl _) _ | refine Below.setCell ?_ (by first | with_reducible exact Nat.le_refl _ | omega | (simp; done) | (simp; omega) | exact Nat.le_refl _) _)) hh) (by first | with_reducible exact Nat.le_refl _ | omega | (simp; done) | (simp; omega) | exact Nat.le_refl _) (by omega) (by omega) HS0.out).mono ?_
  rintro e u1 ⟨rfl, hm⟩
  rw [← HK0.out]
  have hm2 : MarkedG lo hi w u1 := (MarkedG.of_below (by repeat (first | with_reducible assumption | with_reducible exact Below.refl _ _ | with_reducible refine below_drewN ?_ _ | with_reducible refine Below.al ?_ (by first | with_reducible exact Nat.le_refl _ | omega | (simp; done) | (simp; omega) | exact Nat.le_refl _) _ | with_reducible refine Below.setCell ?_ (by first | with_reducible exact Nat.le_refl _ | omega | (simp; done) | (simp; omega) | exact Nat.le_refl _) _ | assumption | exact Below.refl _ _ | refine below_drewN ?_ _ | refine Below.al ?_ (by first | with_reducible exact Nat.le_refl _ | omega | (simp; done) | (simp; omega) | exact Nat.le_refl _) _ | refine Below.setCell ?_ (by first | with_reducible exact Nat.le_refl _ | omega | (simp; done) | (simp; omega) | exact Nat.le_refl _) _))).trans hm
  have z1 : w.heap.size < u1.heap.size := by have := hm.size; first | (simp at this; omega) | omega
  have c0 : u1.cell? ⟨w.heap.size, 0, none⟩ = some (.int .i64 ar) := by rw [boxG hm _ (by simp) (by omega)]; first | (go_simp; done) | (simp [World.cell?]; done)
  have c1 : u1.cell? ⟨w.heap.size, 1, none⟩ = some (.slice a n c) := by rw [boxG hm _ (by simp) (by omega)]; first | (go_simp; done) | (simp [World.cell?]; done)
  have c2 : u1.cell? ⟨w.heap.size, 2, none⟩ = some (.slice la ln lc) := by rw [boxG hm _ (by simp) (by omega)]; first | (go_simp; done) | (simp [World.cell?]; done)
  have c3 : u1.cell? ⟨w.heap.size, 3, none⟩ = some (.slice ga gn gc) := by rw [boxG hm _ (by simp) (by omega)]; first | (go_simp; done) | (simp [World.cell?]; done)
  have c4 : u1.cell? ⟨w.heap.size, 4, none⟩ = some (.slice pa pn pc) := by rw [boxG hm _ (by simp) (by omega)]; first | (go_simp; done) | (simp [World.cell?]; done)
  have HM := hid hm2; clear hm hm2
  go_wp2_with fail
  refine (markG_Ints la ln lc lw k0 _ _ DF1.out HM.out (by omega) (by omega) HS1.out).mono ?_
  rintro e u2 ⟨rfl, hm⟩
  rw [← HK1.out]
  have hm2 : MarkedG lo hi w u2 := HM.out.trans hm
  have z2 : w.heap.size < u2.heap.size := by have := hm.size; first | (simp at this; omega) | omega
  replace c0 : u2.cell? ⟨w.heap.size, 0, none⟩ = some (.int .i64 ar) := by rw [boxG hm _ (by omega) (by omega)]; exact c0
  replace c1 : u2.cell? ⟨w.heap.size, 1, none⟩ = some (.slice a n c) := by rw [boxG hm _ (by omega) (by omega)]; exact c1
  replace c2 : u2.cell? ⟨w.heap.size, 2, none⟩ = some (.slice la ln lc) := by rw [boxG hm _ (by omega) (by omega)]; exact c2
  replace c3 : u2.cell? ⟨w.heap.size, 3, none⟩ = some (.slice ga gn gc) := by rw [boxG hm _ (by omega) (by omega)]; exact c3
  replace c4 : u2.cell? ⟨w.heap.size, 4, none⟩ = some (.slice pa pn pc) := by rw [boxG hm _ (by omega) (by omega)]; exact c4
  clear HM
  have HM := hid hm2; clear hm hm2
  go_wp2_with fail
  refine (markG_Ints ga gn gc gh k1 _ _ DF2.out HM.out (by omega) (by omega) HS2.out).mono ?_
  rintro e u3 ⟨rfl, hm⟩
  rw [← HK2.out]
  have hm2 : MarkedG lo hi w u3 := HM.out.trans hm
  have z3 : w.heap.size < u3.heap.size := by have := hm.size; first | (simp at this; omega) | omega
  replace c0 : u3.cell? ⟨w.heap.size, 0, none⟩ = some (.int .i64 ar) := by rw [boxG hm _ (by omega) (by omega)]; exact c0
  replace c1 : u3.cell? ⟨w.heap.size, 1, none⟩ = some (.slice a n c) := by rw [boxG hm _ (by omega) (by omega)]; exact c1
  replace c2 : u3.cell? ⟨w.heap.size, 2, none⟩ = some (.slice la ln lc) := by rw [boxG hm _ (by omega) (by omega)]; exact c2
  replace c3 : u3.cell? ⟨w.heap.size, 3, none⟩ = some (.slice ga gn gc) := by rw [boxG hm _ (by omega) (by omega)]; exact c3
  replace c4 : u3.cell? ⟨w.heap.size, 4, none⟩ = some (.slice pa pn pc) := by rw [boxG hm _ (by omega) (by omega)]; exact c4
  clear HM
  have HM := hid hm2; clear hm hm2
  go_wp2_with fail
  refine (markG_Ints pa pn pc ps k2 _ _ DF3.out HM.out (by omega) (by omega) HS3.out).mono ?_
  rintro e u4 ⟨rfl, hm⟩
  rw [← HK3.out]
  have hm2 : MarkedG lo hi w u4 := HM.out.trans hm
  have z4 : w.heap.size < u4.heap.size := by have := hm.size; first | (simp at this; omega) | omega
  replace c0 : u4.cell? ⟨w.heap.size, 0, none⟩ = some (.int .i64 ar) := by rw [boxG hm _ (by omega) (by omega)]; exact c0
  replace c1 : u4.cell? ⟨w.heap.size, 1, none⟩ = some (.slice a n c) := by rw [boxG hm _ (by omega) (by omega)]; exact c1
  replace c2 : u4.cell? ⟨w.heap.size, 2, none⟩ = some (.slice la ln lc) := by rw [boxG hm _ (by omega) (by omega)]; exact c2
  replace c3 : u4.cell? ⟨w.heap.size, 3, none⟩ = some (.slice ga gn gc) := by rw [boxG hm _ (by omega) (by omega)]; exact c3
  replace c4 : u4.cell? ⟨w.heap.size, 4, none⟩ = some (.slice pa pn pc) := by rw [boxG hm _ (by omega) (by omega)]; exact c4
  clear HM
  have HM := hid hm2; clear hm hm2
  go_wp2_with fail
  go_ret
  exact ⟨by rw [HE.out]; rfl, HM.out⟩
def GvIter (w : World) (ar : Int) (rows : List (List Int)) (lw : List Int) (gh : List Int) (ps : List Int) (e : Ending) (w' : World) : Prop := ∃ a n c la ln lc ga gn gc pa pn pc, e = .returned (iterV ar a n c la ln lc ga gn gc pa pn pc) ∧ IterA true w.heap.size w'.heap.size w' ar a n c rows la ln lc lw ga gn gc gh pa pn pc ps ∧ Below w.heap.size w w'
set_option maxHeartbeats 3200000 in
theorem toK_Iter {lo hi : Nat} (ar : Int) (a : Option Addr) (n : Nat) (c : Nat) (rows : List (List Int)) (la : Option Addr) (ln : Nat) (lc : Nat) (lw : List Int) (ga : Option Addr) (gn : Nat) (gc : Nat) (gh : List Int) (pa : Option Addr) (pn : Nat) (pc : Nat) (ps : List Int) (w : World) (hI : IterA false lo hi w ar a n c rows la ln lc lw ga gn gc gh pa pn pc ps) (hh : hi ≤ w.heap.size) (hs : szIter rows lw gh ps ≤ 1048576) :
    Calls Try.prog 19 #[iterV ar a n c la ln lc ga gn gc pa pn pc] w (GvIter w ar rows lw gh ps) := by
  have DF0 := hid hI.1
  have DF1 := hid hI.2.1
  have DF2 := hid hI.2.2.1
  have DF3 := hid hI.2.2.2
  clear hI
  have HS0 : Hid (rowsSz rows ≤ 1048576) := hid (by unfold szIter at hs; omega)
  have HS1 : Hid (lw.length ≤ 1048576) := hid (by unfold szIter at hs; omega)
  have HS2 : Hid (gh.length ≤ 1048576) := hid (by unfold szIter at hs; omega)
  have HS3 : Hid (ps.length ≤ 1048576) := hid (by unfold szIter at hs; omega)
  clear hs
  go_enter Try.func19, Try.ntmps19
  go_wp2_with fail
  refine (toK_Trie ar a n c rows _ (beTrie (B := w.heap.size) DF0.out (by repeat (first | with_reducible assumption | with_reducible exact Below.refl _ _ | with_reducible refine below_drewN ?_ _ | with_reducible refine Below.al ?_ (by first | with_reducible exact Nat.le_refl _ | omega | (simp; done) | (simp; omega) | exact Nat.le_refl _) _ | with_reducible refine Below.setCell ?_ (by first | with_reducible exact Nat.le_refl _ | omega | (simp; done) | (simp; omega) | exact Nat.le_refl _) _ | assumption | exact Below.refl _ _ | refine below_drewN ?_ _ | refine Below.al ?_ (by first | with_reducible exact Nat.le_refl _ | omega | (simp; done) | (simp; omega) | exact Nat.le_refl _) _ | refine Below.setCell ?_ (by first | with_reducible exact Nat.le_refl _ | omega | (simp; done) | (simp; omega) | exact Nat.le_refl _) _)) hh) (by first | with_reducible exact Nat.le_refl _ | omega | (simp; done) | (simp; omega) | exact Nat.le_refl _) HS0.out).mono ?_
  rintro e u1 ⟨aR, nR, cR, rfl, ho, hb⟩
  have hz : w.heap.size + 3 ≤ u1.heap.size := by have := hb.size; simp at this; omega
  have hc : Below w.heap.size w u1 := Below.trans (by repeat (first | with_reducible assumption | with_reducible exact Below.refl _ _ | with_reducible refine below_drewN ?_ _ | with_reducible refine Below.al ?_ (by first | with_reducible exact Nat.le_refl _ | omega | (simp; done) | (simp; omega) | exact Nat.le_refl _) _ | with_reducible refine Below.setCell ?_ (by first | with_reducible exact Nat.le_refl _ | omega | (simp; done) | (simp; omega) | exact Nat.le_refl _) _ | assumption | exact Below.refl _ _ | refine below_drewN ?_ _ | refine Below.al ?_ (by first | with_reducible exact Nat.le_refl _ | omega | (simp; done) | (simp; omega) | exact Nat.le_refl _) _ | refine Below.setCell ?_ (by first | with_reducible exact Nat.le_refl _ | omega | (simp; done) | (simp; omega) | exact Nat.le_refl _) _)) (hb.mono (by simp; omega))
  replace DF1 : Hid (IntsA false (lo) hi u1 la ln lc lw) := hid (beInts (B := w.heap.size) DF1.out hc (by omega))
  replace DF2 : Hid (IntsA false (lo) hi u1 ga gn gc gh) := hid (beInts (B := w.heap.size) DF2.out hc (by omega))
  replace DF3 : Hid (IntsA false (lo) hi u1 pa pn pc ps) := hid (beInts (B := w.heap.size) DF3.out hc (by omega))
  have a0 : u1.cell? ⟨w.heap.size, 0, none⟩ = some (.int .i64 ar) := (by rw [(bcell hb).1 _ _ (by first | omega | (simp; done) | (simp; omega))]; first | with_reducible assumption | (go_simp; done) | assumption | (simp [World.cell?]; done))
  have a1 : u1.cell? ⟨w.heap.size, 1, none⟩ = some (.slice a n c) := (by rw [(bcell hb).1 _ _ (by first | omega | (simp; done) | (simp; omega))]; first | with_reducible assumption | (go_simp; done) | assumption | (simp [World.cell?]; done))
  have a2 : u1.cell? ⟨w.heap.size, 2, none⟩ = some (.slice la ln lc) := (by rw [(bcell hb).1 _ _ (by first | omega | (simp; done) | (simp; omega))]; first | with_reducible assumption | (go_simp; done) | assumption | (simp [World.cell?]; done))
  have a3 : u1.cell? ⟨w.heap.size, 3, none⟩ = some (.slice ga gn gc) := (by rw [(bcell hb).1 _ _ (by first | omega | (simp; done) | (simp; omega))]; first | with_reducible assumption | (go_simp; done) | assumption | (simp [World.cell?]; done))
  have a4 : u1.cell? ⟨w.heap.size, 4, none⟩ = some (.slice pa pn pc) := (by rw [(bcell hb).1 _ _ (by first | omega | (simp; done) | (simp; omega))]; first | with_reducible assumption | (go_simp; done) | assumption | (simp [World.cell?]; done))
  have q0 : u1.cell? ⟨w.heap.size + 1, 0, none⟩ = some (.int .i64 0) := (by rw [(bcell hb).1 _ _ (by first | omega | (simp; done) | (simp; omega))]; first | with_reducible assumption | (go_simp; done) | assumption | (simp [World.cell?]; done))
  have qf0 : u1.frozen? ⟨w.heap.size + 1, 0, none⟩ = false := (by rw [(bcell hb).2 _ _ (by first | omega | (simp; done) | (simp; omega))]; first | with_reducible assumption | (go_simp; done) | assumption | (simp [World.frozen?]; done))
  have q1 : u1.cell? ⟨w.heap.size + 1, 1, none⟩ = some (.slice none 0 0) := (by rw [(bcell hb).1 _ _ (by first | omega | (simp; done) | (simp; omega))]; first | with_reducible assumption | (go_simp; done) | assumption | (simp [World.cell?]; done))
  have qf1 : u1.frozen? ⟨w.heap.size + 1, 1, none⟩ = false := (by rw [(bcell hb).2 _ _ (by first | omega | (simp; done) | (simp; omega))]; first | with_reducible assumption | (go_simp; done) | assumption | (simp [World.frozen?]; done))
  have q2 : u1.cell? ⟨w.heap.size + 1, 2, none⟩ = some (.slice none 0 0) := (by rw [(bcell hb).1 _ _ (by first | omega | (simp; done) | (simp; omega))]; first | with_reducible assumption | (go_simp; done) | assumption | (simp [World.cell?]; done))
  have qf2 : u1.frozen? ⟨w.heap.size + 1, 2, none⟩ = false := (by rw [(bcell hb).2 _ _ (by first | omega | (simp; done) | (simp; omega))]; first | with_reducible assumption | (go_simp; done) | assumption | (simp [World.frozen?]; done))
  have q3 : u1.cell? ⟨w.heap.size + 1, 3, none⟩ = some (.slice none 0 0) := (by rw [(bcell hb).1 _ _ (by first | omega | (simp; done) | (simp; omega))]; first | with_reducible assumption | (go_simp; done) | assumption | (simp [World.cell?]; done))
  have qf3 : u1.frozen? ⟨w.heap.size + 1, 3, none⟩ = false := (by rw [(bcell hb).2 _ _ (by first | omega | (simp; done) | (simp; omega))]; first | with_reducible assumption | (go_simp; done) | assumption | (simp [World.frozen?]; done))
  have q4 : u1.cell? ⟨w.heap.size + 1, 4, none⟩ = some (.slice none 0 0) := (by rw [(bcell hb).1 _ _ (by first | omega | (simp; done) | (simp; omega))]; first | with_reducible assumption | (go_simp; done) | assumption | (simp [World.cell?]; done))
  have qf4 : u1.frozen? ⟨w.heap.size + 1, 4, none⟩ = false := (by rw [(bcell hb).2 _ _ (by first | omega | (simp; done) | (simp; omega))]; first | with_reducible assumption | (go_simp; done) | assumption | (simp [World.frozen?]; done))
  have r0 : u1.cell? ⟨w.heap.size + 2, 0, none⟩ = some (.int .i64 0) := (by rw [(bcell hb).1 _ _ (by first | omega | (simp; done) | (simp; omega))]; first | with_reducible assumption | (go_simp; done) | assumption | (simp [World.cell?]; done))
  have rf0 : u1.frozen? ⟨w.heap.size + 2, 0, none⟩ = false := (by rw [(bcell hb).2 _ _ (by first | omega | (simp; done) | (simp; omega))]; first | with_reducible assumption | (go_simp; done) | assumption | (simp [World.frozen?]; done))
  have r1 : u1.cell? ⟨w.heap.size + 2, 1, none⟩ = some (.slice none 0 0) := (by rw [(bcell hb).1 _ _ (by first | omega | (simp; done) | (simp; omega))]; first | with_reducible assumption | (go_simp; done) | assumption | (simp [World.cell?]; done))
  have rf1 : u1.frozen? ⟨w.heap.size + 2, 1, none⟩ = false := (by rw [(bcell hb).2 _ _ (by first | omega | (simp; done) | (simp; omega))]; first | with_reducible assumption | (go_simp; done) | assumption | (simp [World.frozen?]; done))
  have r2 : u1.cell? ⟨w.heap.size + 2, 2, none⟩ = some (.slice none 0 0) := (by rw [(bcell hb).1 _ _ (by first | omega | (simp; done) | (simp; omega))]; first | with_reducible assumption | (go_simp; done) | assumption | (simp [World.cell?]; done))
  have rf2 : u1.frozen? ⟨w.heap.size + 2, 2, none⟩ = false := (by rw [(bcell hb).2 _ _ (by first | omega | (simp; done) | (simp; omega))]; first | with_reducible assumption | (go_simp; done) | assumption | (simp [World.frozen?]; done))
  have r3 : u1.cell? ⟨w.heap.size + 2, 3, none⟩ = some (.slice none 0 0) := (by rw [(bcell hb).1 _ _ (by first | omega | (simp; done) | (simp; omega))]; first | with_reducible assumption | (go_simp; done) | assumption | (simp [World.cell?]; done))
  have rf3 : u1.frozen? ⟨w.heap.size + 2, 3, none⟩ = false := (by rw [(bcell hb).2 _ _ (by first | omega | (simp; done) | (simp; omega))]; first | with_reducible assumption | (go_simp; done) | assumption | (simp [World.frozen?]; done))
  have r4 : u1.cell? ⟨w.heap.size + 2, 4, none⟩ = some (.slice none 0 0) := (by rw [(bcell hb).1 _ _ (by first | omega | (simp; done) | (simp; omega))]; first | with_reducible assumption | (go_simp; done) | assumption | (simp [World.cell?]; done))
  have rf4 : u1.frozen? ⟨w.heap.size + 2, 4, none⟩ = false := (by rw [(bcell hb).2 _ _ (by first | omega | (simp; done) | (simp; omega))]; first | with_reducible assumption | (go_simp; done) | assumption | (simp [World.frozen?]; done))
  have hI0 : Hid (TrieA true (w.heap.size + 3) u1.heap.size u1 ar aR nR cR rows) := hid (by simpa using ho)
  have HW := hid hc
  clear ho hb hc
  have hz1 : w.heap.size + 3 ≤ u1.heap.size := hz; clear hz
  go_wp2_with fail
  refine (toK_Ints la ln lc lw _ (beInts (B := w.heap.size) DF1.out (by repeat (first | with_reducible assumption | with_reducible exact Below.refl _ _ | with_reducible refine below_drewN ?_ _ | with_reducible refine Below.al ?_ (by first | with_reducible exact Nat.le_refl _ | omega | (simp; done) | (simp; omega) | exact Nat.le_refl _) _ | with_reducible refine Below.setCell ?_ (by first | with_reducible exact Nat.le_refl _ | omega | (simp; done) | (simp; omega) | exact Nat.le_refl _) _ | assumption | exact Below.refl _ _ | refine below_drewN ?_ _ | refine Below.al ?_ (by first | with_reducible exact Nat.le_refl _ | omega | (simp; done) | (simp; omega) | exact Nat.le_refl _) _ | refine Below.setCell ?_ (by first | with_reducible exact Nat.le_refl _ | omega | (simp; done) | (simp; omega) | exact Nat.le_refl _) _)) (by omega)) (by first | with_reducible exact Nat.le_refl _ | omega | (simp; done) | (simp; omega) | exact Nat.le_refl _) HS1.out).mono ?_
  rintro e u2 ⟨laR, lnR, lcR, rfl, ho, hb⟩
  have hz : u1.heap.size ≤ u2.heap.size := by have := hb.size; simp only [szSet] at this; omega
  have hs2 : Below w.heap.size u1 u2 := Below.trans (Below.setCell (Below.setCell (Below.refl _ _) (by dsimp only; omega) _) (by dsimp only; omega) _) (hb.mono (by simp only [szSet]; omega))
  have hc : Below w.heap.size w u2 := HW.out.trans hs2
  replace DF2 : Hid (IntsA false (lo) hi u2 ga gn gc gh) := hid (beInts (B := w.heap.size) DF2.out hs2 (by omega))
  replace DF3 : Hid (IntsA false (lo) hi u2 pa pn pc ps) := hid (beInts (B := w.heap.size) DF3.out hs2 (by omega))
  replace a0 : u2.cell? ⟨w.heap.size, 0, none⟩ = some (.int .i64 ar) := by rw [(bcell hb).1 _ _ (by simp only [szSet]; omega)]; rw [cset_other (by intro h; simp only [Addr.mk.injEq] at h; omega)]; rw [cset_other (by intro h; simp only [Addr.mk.injEq] at h; omega)]; exact a0
  replace a1 : u2.cell? ⟨w.heap.size, 1, none⟩ = some (.slice a n c) := by rw [(bcell hb).1 _ _ (by simp only [szSet]; omega)]; rw [cset_other (by intro h; simp only [Addr.mk.injEq] at h; omega)]; rw [cset_other (by intro h; simp only [Addr.mk.injEq] at h; omega)]; exact a1
  replace a2 : u2.cell? ⟨w.heap.size, 2, none⟩ = some (.slice la ln lc) := by rw [(bcell hb).1 _ _ (by simp only [szSet]; omega)]; rw [cset_other (by intro h; simp only [Addr.mk.injEq] at h; omega)]; rw [cset_other (by intro h; simp only [Addr.mk.injEq] at h; omega)]; exact a2
  replace a3 : u2.cell? ⟨w.heap.size, 3, none⟩ = some (.slice ga gn gc) := by rw [(bcell hb).1 _ _ (by simp only [szSet]; omega)]; rw [cset_other (by intro h; simp only [Addr.mk.injEq] at h; omega)]; rw [cset_other (by intro h; simp only [Addr.mk.injEq] at h; omega)]; exact a3
  replace a4 : u2.cell? ⟨w.heap.size, 4, none⟩ = some (.slice pa pn pc) := by rw [(bcell hb).1 _ _ (by simp only [szSet]; omega)]; rw [cset_other (by intro h; simp only [Addr.mk.injEq] at h; omega)]; rw [cset_other (by intro h; simp only [Addr.mk.injEq] at h; omega)]; exact a4
  replace q0 : u2.cell? ⟨w.heap.size + 1, 0, none⟩ = some (.int .i64 0) := by rw [(bcell hb).1 _ _ (by simp only [szSet]; omega)]; rw [cset_other (by intro h; simp only [Addr.mk.injEq] at h; omega)]; rw [cset_other (by intro h; simp only [Addr.mk.injEq] at h; omega)]; exact q0
  replace qf0 : u2.frozen? ⟨w.heap.size + 1, 0, none⟩ = false := by rw [(bcell hb).2 _ _ (by simp only [szSet]; omega)]; simp only [fset]; exact qf0
  replace q1 : u2.cell? ⟨w.heap.size + 1, 1, none⟩ = some (.slice none 0 0) := by rw [(bcell hb).1 _ _ (by simp only [szSet]; omega)]; rw [cset_other (by intro h; simp only [Addr.mk.injEq] at h; omega)]; rw [cset_other (by intro h; simp only [Addr.mk.injEq] at h; omega)]; exact q1
  replace qf1 : u2.frozen? ⟨w.heap.size + 1, 1, none⟩ = false := by rw [(bcell hb).2 _ _ (by simp only [szSet]; omega)]; simp only [fset]; exact qf1
  replace q2 : u2.cell? ⟨w.heap.size + 1, 2, none⟩ = some (.slice none 0 0) := by rw [(bcell hb).1 _ _ (by simp only [szSet]; omega)]; rw [cset_other (by intro h; simp only [Addr.mk.injEq] at h; omega)]; rw [cset_other (by intro h; simp only [Addr.mk.injEq] at h; omega)]; exact q2
  replace qf2 : u2.frozen? ⟨w.heap.size + 1, 2, none⟩ = false := by rw [(bcell hb).2 _ _ (by simp only [szSet]; omega)]; simp only [fset]; exact qf2
  replace q3 : u2.cell? ⟨w.heap.size + 1, 3, none⟩ = some (.slice none 0 0) := by rw [(bcell hb).1 _ _ (by simp only [szSet]; omega)]; rw [cset_other (by intro h; simp only [Addr.mk.injEq] at h; omega)]; rw [cset_other (by intro h; simp only [Addr.mk.injEq] at h; omega)]; exact q3
  replace qf3 : u2.frozen? ⟨w.heap.size + 1, 3, none⟩ = false := by rw [(bcell hb).2 _ _ (by simp only [szSet]; omega)]; simp only [fset]; exact qf3
  replace q4 : u2.cell? ⟨w.heap.size + 1, 4, none⟩ = some (.slice none 0 0) := by rw [(bcell hb).1 _ _ (by simp only [szSet]; omega)]; rw [cset_other (by intro h; simp only [Addr.mk.injEq] at h; omega)]; rw [cset_other (by intro h; simp only [Addr.mk.injEq] at h; omega)]; exact q4
  replace qf4 : u2.frozen? ⟨w.heap.size + 1, 4, none⟩ = false := by rw [(bcell hb).2 _ _ (by simp only [szSet]; omega)]; simp only [fset]; exact qf4
  replace r0 : u2.cell? ⟨w.heap.size + 2, 0, none⟩ = some (.int .i64 ar) := by rw [(bcell hb).1 _ _ (by simp only [szSet]; omega)]; rw [cset_other (by intro h; simp only [Addr.mk.injEq] at h; omega)]; exact cset_same (u := .int .i64 0) r0
  replace rf0 : u2.frozen? ⟨w.heap.size + 2, 0, none⟩ = false := by rw [(bcell hb).2 _ _ (by simp only [szSet]; omega)]; simp only [fset]; exact rf0
  replace r1 : u2.cell? ⟨w.heap.size + 2, 1, none⟩ = some (.slice aR nR cR) := by rw [(bcell hb).1 _ _ (by simp only [szSet]; omega)]; refine cset_same (u := .slice none 0 0) ?_; rw [cset_other (by intro h; simp only [Addr.mk.injEq] at h; omega)]; exact r1
  replace rf1 : u2.frozen? ⟨w.heap.size + 2, 1, none⟩ = false := by rw [(bcell hb).2 _ _ (by simp only [szSet]; omega)]; simp only [fset]; exact rf1
  replace r2 : u2.cell? ⟨w.heap.size + 2, 2, none⟩ = some (.slice none 0 0) := by rw [(bcell hb).1 _ _ (by simp only [szSet]; omega)]; rw [cset_other (by intro h; simp only [Addr.mk.injEq] at h; omega)]; rw [cset_other (by intro h; simp only [Addr.mk.injEq] at h; omega)]; exact r2
  replace rf2 : u2.frozen? ⟨w.heap.size + 2, 2, none⟩ = false := by rw [(bcell hb).2 _ _ (by simp only [szSet]; omega)]; simp only [fset]; exact rf2
  replace r3 : u2.cell? ⟨w.heap.size + 2, 3, none⟩ = some (.slice none 0 0) := by rw [(bcell hb).1 _ _ (by simp only [szSet]; omega)]; rw [cset_other (by intro h; simp only [Addr.mk.injEq] at h; omega)]; rw [cset_other (by intro h; simp only [Addr.mk.injEq] at h; omega)]; exact r3
  replace rf3 : u2.frozen? ⟨w.heap.size + 2, 3, none⟩ = false := by rw [(bcell hb).2 _ _ (by simp only [szSet]; omega)]; simp only [fset]; exact rf3
  replace r4 : u2.cell? ⟨w.heap.size + 2, 4, none⟩ = some (.slice none 0 0) := by rw [(bcell hb).1 _ _ (by simp only [szSet]; omega)]; rw [cset_other (by intro h; simp only [Addr.mk.injEq] at h; omega)]; rw [cset_other (by intro h; simp only [Addr.mk.injEq] at h; omega)]; exact r4
  replace rf4 : u2.frozen? ⟨w.heap.size + 2, 4, none⟩ = false := by rw [(bcell hb).2 _ _ (by simp only [szSet]; omega)]; simp only [fset]; exact rf4
  have hI1 : Hid (IntsA true (u1.heap.size) u2.heap.size u2 laR lnR lcR lw) := hid (by simpa using ho)
  replace hI0 : Hid (TrieA true (w.heap.size + 3) u1.heap.size u2 ar aR nR cR rows) := hid (kpTrie hI0.out (Keeps.trans (Keeps.sc (Keeps.sc (Keeps.refl _ _ _) (.inl (by omega)) _) (.inl (by omega)) _) (Keeps.of_below hb (by simp only [szSet]; omega))))
  replace HW := hid hc
  clear ho hb hc hs2
  have hz2 : u1.heap.size ≤ u2.heap.size := hz; clear hz
  go_wp2_with fail
  refine (toK_Ints ga gn gc gh _ (beInts (B := w.heap.size) DF2.out (by repeat (first | with_reducible assumption | with_reducible exact Below.refl _ _ | with_reducible refine below_drewN ?_ _ | with_reducible refine Below.al ?_ (by first | with_reducible exact Nat.le_refl _ | omega | (simp; done) | (simp; omega) | exact Nat.le_refl _) _ | with_reducible refine Below.setCell ?_ (by first | with_reducible exact Nat.le_refl _ | omega | (simp; done) | (simp; omega) | exact Nat.le_refl _) _ | assumption | exact Below.refl _ _ | refine below_drewN ?_ _ | refine Below.al ?_ (by first | with_reducible exact Nat.le_refl _ | omega | (simp; done) | (simp; omega) | exact Nat.le_refl _) _ | refine Below.setCell ?_ (by first | with_reducible exact Nat.le_refl _ | omega | (simp; done) | (simp; omega) | exact Nat.le_refl _) _)) (by omega)) (by first | with_reducible exact Nat.le_refl _ | omega | (simp; done) | (simp; omega) | exact Nat.le_refl _) HS2.out).mono ?_
  rintro e u3 ⟨gaR, gnR, gcR, rfl, ho, hb⟩
  have hz : u2.heap.size ≤ u3.heap.size := by have := hb.size; simp only [szSet] at this; omega
  have hs2 : Below w.heap.size u2 u3 := Below.trans (Below.setCell (Below.refl _ _) (by dsimp only; omega) _) (hb.mono (by simp only [szSet]; omega))
  have hc : Below w.heap.size w u3 := HW.out.trans hs2
  replace DF3 : Hid (IntsA false (lo) hi u3 pa pn pc ps) := hid (beInts (B := w.heap.size) DF3.out hs2 (by omega))
  replace a0 : u3.cell? ⟨w.heap.size, 0, none⟩ = some (.int .i64 ar) := by rw [(bcell hb).1 _ _ (by simp only [szSet]; omega)]; rw [cset_other (by intro h; simp only [Addr.mk.injEq] at h; omega)]; exact a0
  replace a1 : u3.cell? ⟨w.heap.size, 1, none⟩ = some (.slice a n c) := by rw [(bcell hb).1 _ _ (by simp only [szSet]; omega)]; rw [cset_other (by intro h; simp only [Addr.mk.injEq] at h; omega)]; exact a1
  replace a2 : u3.cell? ⟨w.heap.size, 2, none⟩ = some (.slice la ln lc) := by rw [(bcell hb).1 _ _ (by simp only [szSet]; omega)]; rw [cset_other (by intro h; simp only [Addr.mk.injEq] at h; omega)]; exact a2
  replace a3 : u3.cell? ⟨w.heap.size, 3, none⟩ = some (.slice ga gn gc) := by rw [(bcell hb).1 _ _ (by simp only [szSet]; omega)]; rw [cset_other (by intro h; simp only [Addr.mk.injEq] at h; omega)]; exact a3
  replace a4 : u3.cell? ⟨w.heap.size, 4, none⟩ = some (.slice pa pn pc) := by rw [(bcell hb).1 _ _ (by simp only [szSet]; omega)]; rw [cset_other (by intro h; simp only [Addr.mk.injEq] at h; omega)]; exact a4
  replace q0 : u3.cell? ⟨w.heap.size + 1, 0, none⟩ = some (.int .i64 0) := by rw [(bcell hb).1 _ _ (by simp only [szSet]; omega)]; rw [cset_other (by intro h; simp only [Addr.mk.injEq] at h; omega)]; exact q0
  replace qf0 : u3.frozen? ⟨w.heap.size + 1, 0, none⟩ = false := by rw [(bcell hb).2 _ _ (by simp only [szSet]; omega)]; simp only [fset]; exact qf0
  replace q1 : u3.cell? ⟨w.heap.size + 1, 1, none⟩ = some (.slice none 0 0) := by rw [(bcell hb).1 _ _ (by simp only [szSet]; omega)]; rw [cset_other (by intro h; simp only [Addr.mk.injEq] at h; omega)]; exact q1
  replace qf1 : u3.frozen? ⟨w.heap.size + 1, 1, none⟩ = false := by rw [(bcell hb).2 _ _ (by simp only [szSet]; omega)]; simp only [fset]; exact qf1
  replace q2 : u3.cell? ⟨w.heap.size + 1, 2, none⟩ = some (.slice none 0 0) := by rw [(bcell hb).1 _ _ (by simp only [szSet]; omega)]; rw [cset_other (by intro h; simp only [Addr.mk.injEq] at h; omega)]; exact q2
  replace qf2 : u3.frozen? ⟨w.heap.size + 1, 2, none⟩ = false := by rw [(bcell hb).2 _ _ (by simp only [szSet]; omega)]; simp only [fset]; exact qf2
  replace q3 : u3.cell? ⟨w.heap.size + 1, 3, none⟩ = some (.slice none 0 0) := by rw [(bcell hb).1 _ _ (by simp only [szSet]; omega)]; rw [cset_other (by intro h; simp only [Addr.mk.injEq] at h; omega)]; exact q3
  replace qf3 : u3.frozen? ⟨w.heap.size + 1, 3, none⟩ = false := by rw [(bcell hb).2 _ _ (by simp only [szSet]; omega)]; simp only [fset]; exact qf3
  replace q4 : u3.cell? ⟨w.heap.size + 1, 4, none⟩ = some (.slice none 0 0) := by rw [(bcell hb).1 _ _ (by simp only [szSet]; omega)]; rw [cset_other (by intro h; simp only [Addr.mk.injEq] at h; omega)]; exact q4
  replace qf4 : u3.frozen? ⟨w.heap.size + 1, 4, none⟩ = false := by rw [(bcell hb).2 _ _ (by simp only [szSet]; omega)]; simp only [fset]; exact qf4
  replace r0 : u3.cell? ⟨w.heap.size + 2, 0, none⟩ = some (.int .i64 ar) := by rw [(bcell hb).1 _ _ (by simp only [szSet]; omega)]; rw [cset_other (by intro h; simp only [Addr.mk.injEq] at h; omega)]; exact r0
  replace rf0 : u3.frozen? ⟨w.heap.size + 2, 0, none⟩ = false := by rw [(bcell hb).2 _ _ (by simp only [szSet]; omega)]; simp only [fset]; exact rf0
  replace r1 : u3.cell? ⟨w.heap.size + 2, 1, none⟩ = some (.slice aR nR cR) := by rw [(bcell hb).1 _ _ (by simp only [szSet]; omega)]; rw [cset_other (by intro h; simp only [Addr.mk.injEq] at h; omega)]; exact r1
  replace rf1 : u3.frozen? ⟨w.heap.size + 2, 1, none⟩ = false := by rw [(bcell hb).2 _ _ (by simp only [szSet]; omega)]; simp only [fset]; exact rf1
  replace r2 : u3.cell? ⟨w.heap.size + 2, 2, none⟩ = some (.slice laR lnR lcR) := by rw [(bcell hb).1 _ _ (by simp only [szSet]; omega)]; exact cset_same (u := .slice none 0 0) r2
  replace rf2 : u3.frozen? ⟨w.heap.size + 2, 2, none⟩ = false := by rw [(bcell hb).2 _ _ (by simp only [szSet]; omega)]; simp only [fset]; exact rf2
  replace r3 : u3.cell? ⟨w.heap.size + 2, 3, none⟩ = some (.slice none 0 0) := by rw [(bcell hb).1 _ _ (by simp only [szSet]; omega)]; rw [cset_other (by intro h; simp only [Addr.mk.injEq] at h; omega)]; exact r3
  replace rf3 : u3.frozen? ⟨w.heap.size + 2, 3, none⟩ = false := by rw [(bcell hb).2 _ _ (by simp only [szSet]; omega)]; simp only [fset]; exact rf3
  replace r4 : u3.cell? ⟨w.heap.size + 2, 4, none⟩ = some (.slice none 0 0) := by rw [(bcell hb).1 _ _ (by simp only [szSet]; omega)]; rw [cset_other (by intro h; simp only [Addr.mk.injEq] at h; omega)]; exact r4
  replace rf4 : u3.frozen? ⟨w.heap.size + 2, 4, none⟩ = false := by rw [(bcell hb).2 _ _ (by simp only [szSet]; omega)]; simp only [fset]; exact rf4
  have hI2 : Hid (IntsA true (u2.heap.size) u3.heap.size u3 gaR gnR gcR gh) := hid (by simpa using ho)
  replace hI0 : Hid (TrieA true (w.heap.size + 3) u1.heap.size u3 ar aR nR cR rows) := hid (kpTrie hI0.out (Keeps.trans (Keeps.sc (Keeps.refl _ _ _) (.inl (by omega)) _) (Keeps.of_below hb (by simp only [szSet]; omega))))
  replace hI1 : Hid (IntsA true (u1.heap.size) u2.heap.size u3 laR lnR lcR lw) := hid (kpInts hI1.out (Keeps.trans (Keeps.sc (Keeps.refl _ _ _) (.inl (by omega)) _) (Keeps.of_below hb (by simp only [szSet]; omega))))
  replace HW := hid hc
  clear ho hb hc hs2
  have hz3 : u2.heap.size ≤ u3.heap.size := hz; clear hz
  go_wp2_with fail
  refine (toK_Ints pa pn pc ps _ (beInts (B := w.heap.size) DF3.out (by repeat (first | with_reducible assumption | with_reducible exact Below.refl _ _ | with_reducible refine below_drewN ?_ _ | with_reducible refine Below.al ?_ (by first | with_reducible exact Nat.le_refl _ | omega | (simp; done) | (simp; omega) | exact Nat.le_refl _) _ | with_reducible refine Below.setCell ?_ (by first | with_reducible exact Nat.le_refl _ | omega | (simp; done) | (simp; omega) | exact Nat.le_refl _) _ | assumption | exact Below.refl _ _ | refine below_drewN ?_ _ | refine Below.al ?_ (by first | with_reducible exact Nat.le_refl _ | omega | (simp; done) | (simp; omega) | exact Nat.le_refl _) _ | refine Below.setCell ?_ (by first | with_reducible exact Nat.le_refl _ | omega | (simp; done) | (simp; omega) | exact Nat.le_refl _) _)) (by omega)) (by first | with_reducible exact Nat.le_refl _ | omega | (simp; done) | (simp; omega) | exact Nat.le_refl _) HS3.out).mono ?_
  rintro e u4 ⟨paR, pnR, pcR, rfl, ho, hb⟩
  have hz : u3.heap.size ≤ u4.heap.size := by have := hb.size; simp only [szSet] at this; omega
  have hs2 : Below w.heap.size u3 u4 := Below.trans (Below.setCell (Below.refl _ _) (by dsimp only; omega) _) (hb.mono (by simp only [szSet]; omega))
  have hc : Below w.heap.size w u4 := HW.out.trans hs2
  replace a0 : u4.cell? ⟨w.heap.size, 0, none⟩ = some (.int .i64 ar) := by rw [(bcell hb).1 _ _ (by simp only [szSet]; omega)]; rw [cset_other (by intro h; simp only [Addr.mk.injEq] at h; omega)]; exact a0
  replace a1 : u4.cell? ⟨w.heap.size, 1, none⟩ = some (.slice a n c) := by rw [(bcell hb).1 _ _ (by simp only [szSet]; omega)]; rw [cset_other (by intro h; simp only [Addr.mk.injEq] at h; omega)]; exact a1
  replace a2 : u4.cell? ⟨w.heap.size, 2, none⟩ = some (.slice la ln lc) := by rw [(bcell hb).1 _ _ (by simp only [szSet]; omega)]; rw [cset_other (by intro h; simp only [Addr.mk.injEq] at h; omega)]; exact a2
  replace a3 : u4.cell? ⟨w.heap.size, 3, none⟩ = some (.slice ga gn gc) := by rw [(bcell hb).1 _ _ (by simp only [szSet]; omega)]; rw [cset_other (by intro h; simp only [Addr.mk.injEq] at h; omega)]; exact a3
  replace a4 : u4.cell? ⟨w.heap.size, 4, none⟩ = some (.slice pa pn pc) := by rw [(bcell hb).1 _ _ (by simp only [szSet]; omega)]; rw [cset_other (by intro h; simp only [Addr.mk.injEq] at h; omega)]; exact a4
  replace q0 : u4.cell? ⟨w.heap.size + 1, 0, none⟩ = some (.int .i64 0) := by rw [(bcell hb).1 _ _ (by simp only [szSet]; omega)]; rw [cset_other (by intro h; simp only [Addr.mk.injEq] at h; omega)]; exact q0
  replace qf0 : u4.frozen? ⟨w.heap.size + 1, 0, none⟩ = false := by rw [(bcell hb).2 _ _ (by simp only [szSet]; omega)]; simp only [fset]; exact qf0
  replace q1 : u4.cell? ⟨w.heap.size + 1, 1, none⟩ = some (.slice none 0 0) := by rw [(bcell hb).1 _ _ (by simp only [szSet]; omega)]; rw [cset_other (by intro h; simp only [Addr.mk.injEq] at h; omega)]; exact q1
  replace qf1 : u4.frozen? ⟨w.heap.size + 1, 1, none⟩ = false := by rw [(bcell hb).2 _ _ (by simp only [szSet]; omega)]; simp only [fset]; exact qf1
  replace q2 : u4.cell? ⟨w.heap.size + 1, 2, none⟩ = some (.slice none 0 0) := by rw [(bcell hb).1 _ _ (by simp only [szSet]; omega)]; rw [cset_other (by intro h; simp only [Addr.mk.injEq] at h; omega)]; exact q2
  replace qf2 : u4.frozen? ⟨w.heap.size + 1, 2, none⟩ = false := by rw [(bcell hb).2 _ _ (by simp only [szSet]; omega)]; simp only [fset]; exact qf2
  replace q3 : u4.cell? ⟨w.heap.size + 1, 3, none⟩ = some (.slice none 0 0) := by rw [(bcell hb).1 _ _ (by simp only [szSet]; omega)]; rw [cset_other (by intro h; simp only [Addr.mk.injEq] at h; omega)]; exact q3
  replace qf3 : u4.frozen? ⟨w.heap.size + 1, 3, none⟩ = false := by rw [(bcell hb).2 _ _ (by simp only [szSet]; omega)]; simp only [fset]; exact qf3
  replace q4 : u4.cell? ⟨w.heap.size + 1, 4, none⟩ = some (.slice none 0 0) := by rw [(bcell hb).1 _ _ (by simp only [szSet]; omega)]; rw [cset_other (by intro h; simp only [Addr.mk.injEq] at h; omega)]; exact q4
  replace qf4 : u4.frozen? ⟨w.heap.size + 1, 4, none⟩ = false := by rw [(bcell hb).2 _ _ (by simp only [szSet]; omega)]; simp only [fset]; exact qf4
  replace r0 : u4.cell? ⟨w.heap.size + 2, 0, none⟩ = some (.int .i64 ar) := by rw [(bcell hb).1 _ _ (by simp only [szSet]; omega)]; rw [cset_other (by intro h; simp only [Addr.mk.injEq] at h; omega)]; exact r0
  replace rf0 : u4.frozen? ⟨w.heap.size + 2, 0, none⟩ = false := by rw [(bcell hb).2 _ _ (by simp only [szSet]; omega)]; simp only [fset]; exact rf0
  replace r1 : u4.cell? ⟨w.heap.size + 2, 1, none⟩ = some (.slice aR nR cR) := by rw [(bcell hb).1 _ _ (by simp only [szSet]; omega)]; rw [cset_other (by intro h; simp only [Addr.mk.injEq] at h; omega)]; exact r1
  replace rf1 : u4.frozen? ⟨w.heap.size + 2, 1, none⟩ = false := by rw [(bcell hb).2 _ _ (by simp only [szSet]; omega)]; simp only [fset]; exact rf1
  replace r2 : u4.cell? ⟨w.heap.size + 2, 2, none⟩ = some (.slice laR lnR lcR) := by rw [(bcell hb).1 _ _ (by simp only [szSet]; omega)]; rw [cset_other (by intro h; simp only [Addr.mk.injEq] at h; omega)]; exact r2
  replace rf2 : u4.frozen? ⟨w.heap.size + 2, 2, none⟩ = false := by rw [(bcell hb).2 _ _ (by simp only [szSet]; omega)]; simp only [fset]; exact rf2
  replace r3 : u4.cell? ⟨w.heap.size + 2, 3, none⟩ = some (.slice gaR gnR gcR) := by rw [(bcell hb).1 _ _ (by simp only [szSet]; omega)]; exact cset_same (u := .slice none 0 0) r3
  replace rf3 : u4.frozen? ⟨w.heap.size + 2, 3, none⟩ = false := by rw [(bcell hb).2 _ _ (by simp only [szSet]; omega)]; simp only [fset]; exact rf3
  replace r4 : u4.cell? ⟨w.heap.size + 2, 4, none⟩ = some (.slice none 0 0) := by rw [(bcell hb).1 _ _ (by simp only [szSet]; omega)]; rw [cset_other (by intro h; simp only [Addr.mk.injEq] at h; omega)]; exact r4
  replace rf4 : u4.frozen? ⟨w.heap.size + 2, 4, none⟩ = false := by rw [(bcell hb).2 _ _ (by simp only [szSet]; omega)]; simp only [fset]; exact rf4
  have hI3 : Hid (IntsA true (u3.heap.size) u4.heap.size u4 paR pnR pcR ps) := hid (by simpa using ho)
  replace hI0 : Hid (TrieA true (w.heap.size + 3) u1.heap.size u4 ar aR nR cR rows) := hid (kpTrie hI0.out (Keeps.trans (Keeps.sc (Keeps.refl _ _ _) (.inl (by omega)) _) (Keeps.of_below hb (by simp only [szSet]; omega))))
  replace hI1 : Hid (IntsA true (u1.heap.size) u2.heap.size u4 laR lnR lcR lw) := hid (kpInts hI1.out (Keeps.trans (Keeps.sc (Keeps.refl _ _ _) (.inl (by omega)) _) (Keeps.of_below hb (by simp only [szSet]; omega))))
  replace hI2 : Hid (IntsA true (u2.heap.size) u3.heap.size u4 gaR gnR gcR gh) := hid (kpInts hI2.out (Keeps.trans (Keeps.sc (Keeps.refl _ _ _) (.inl (by omega)) _) (Keeps.of_below hb (by simp only [szSet]; omega))))
  replace HW := hid hc
  clear ho hb hc hs2
  have hz4 : u3.heap.size ≤ u4.heap.size := hz; clear hz
  go_wp2_with fail
  refine bodyPost_ret (v := iterV ar aR nR cR laR lnR lcR gaR gnR gcR paR pnR pcR) ?_ rfl ⟨_, _, _, _, _, _, _, _, _, _, _, _, rfl, ?_, ?_⟩
  · (simp [results, Try.results19, go_sem, q0, q1, q2, q3, q4]; done)
  · exact ⟨(hgTrie (wdTrie (kpTrie hI0.out (Keeps.sc (Keeps.sc (Keeps.sc (Keeps.sc (Keeps.sc (Keeps.sc (Keeps.refl _ _ _) (.inl (by omega)) _) (.inl (by omega)) _) (.inl (by omega)) _) (.inl (by omega)) _) (.inl (by omega)) _) (.inl (by omega)) _)) (by omega)) (by simp only [szSet]; omega)), (hgInts (wdInts (kpInts hI1.out (Keeps.sc (Keeps.sc (Keeps.sc (Keeps.sc (Keeps.sc (Keeps.sc (Keeps.refl _ _ _) (.inl (by omega)) _) (.inl (by omega)) _) (.inl (by omega)) _) (.inl (by omega)) _) (.inl (by omega)) _) (.inl (by omega)) _)) (by omega)) (by simp only [szSet]; omega)), (hgInts (wdInts (kpInts hI2.out (Keeps.sc (Keeps.sc (Keeps.sc (Keeps.sc (Keeps.sc (Keeps.sc (Keeps.refl _ _ _) (.inl (by omega)) _) (.inl (by omega)) _) (.inl (by omega)) _) (.inl (by omega)) _) (.inl (by omega)) _) (.inl (by omega)) _)) (by omega)) (by simp only [szSet]; omega)), (hgInts (wdInts (kpInts hI3.out (Keeps.sc (Keeps.sc (Keeps.sc (Keeps.sc (Keeps.sc (Keeps.sc (Keeps.refl _ _ _) (.inl (by omega)) _) (.inl (by omega)) _) (.inl (by omega)) _) (.inl (by omega)) _) (.inl (by omega)) _) (.inl (by omega)) _)) (by omega)) (by simp only [szSet]; omega))⟩
  · exact Below.trans HW.out (Below.setCell (Below.setCell (Below.setCell (Below.setCell (Below.setCell (Below.setCell (Below.refl _ _) (by dsimp only; omega) _) (by dsimp only; omega) _) (by dsimp only; omega) _) (by dsimp only; omega) _) (by dsimp only; omega) _) (by dsimp only; omega) _)
end Go.Proofs.Ythochdlbmaiclaa
