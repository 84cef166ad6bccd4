/- The laws' own functions on Query: copying, measuring, comparing, marking. Written by structwalk.py. -/
import Derived.Test.YtdimcbollnggjaaA5
import Derived.Test.YtdimcbollnggjaaLater
namespace Go.Proofs.Ytdimcbollnggjaa
set_option linter.unusedSimpArgs false
set_option linter.unusedVariables false
open Go.RowKit
/-- the value of a struct -/
abbrev queryV (nv : Int) (a : Option Addr) (n : Nat) (c : Nat) (ua : Option Addr) (un : Nat) (uc : Nat) : Value := .agg #[.int .i64 nv, .slice a n c, .slice ua un uc]
/-- the datum behind it -/
def QueryA (fz : Bool) (lo hi : Nat) (w : World) (nv : Int) (a : Option Addr) (n : Nat) (c : Nat) (xs : List AtomD) (ua : Option Addr) (un : Nat) (uc : Nat) (us : List Int) : Prop := I64 nv ∧ AtomsA fz (lo) hi w a n c xs ∧ IntsA fz (lo) hi w ua un uc us
theorem beQuery {fz : Bool} {lo hi B : Nat} {w w' : World} {nv : Int} {a : Option Addr} {n : Nat} {c : Nat} {xs : List AtomD} {ua : Option Addr} {un : Nat} {uc : Nat} {us : List Int} (h : QueryA fz lo hi w nv a n c xs ua un uc us) (hb : Below B w w') (hh : hi ≤ B) : QueryA fz lo hi w' nv a n c xs ua un uc us := ⟨h.1, beAtoms h.2.1 hb hh, beInts h.2.2 hb hh⟩
theorem kpQuery {fz : Bool} {lo hi : Nat} {w w' : World} {nv : Int} {a : Option Addr} {n : Nat} {c : Nat} {xs : List AtomD} {ua : Option Addr} {un : Nat} {uc : Nat} {us : List Int} (h : QueryA fz lo hi w nv a n c xs ua un uc us) (hb : Keeps lo hi w w') : QueryA fz lo hi w' nv a n c xs ua un uc us := ⟨h.1, kpAtoms h.2.1 hb, kpInts h.2.2 hb⟩
theorem wdQuery {fz : Bool} {lo hi lo' : Nat} {w : World} {nv : Int} {a : Option Addr} {n : Nat} {c : Nat} {xs : List AtomD} {ua : Option Addr} {un : Nat} {uc : Nat} {us : List Int} (h : QueryA fz lo hi w nv a n c xs ua un uc us) (hl : lo' ≤ lo) : QueryA fz lo' hi w nv a n c xs ua un uc us := ⟨h.1, wdAtoms h.2.1 hl, wdInts h.2.2 hl⟩
theorem hgQuery {fz : Bool} {lo hi hi' : Nat} {w : World} {nv : Int} {a : Option Addr} {n : Nat} {c : Nat} {xs : List AtomD} {ua : Option Addr} {un : Nat} {uc : Nat} {us : List Int} (h : QueryA fz lo hi w nv a n c xs ua un uc us) (hl : hi ≤ hi') : QueryA fz lo hi' w nv a n c xs ua un uc us := ⟨h.1, hgAtoms h.2.1 hl, hgInts h.2.2 hl⟩
theorem rdQuery {fz : Bool} {lo hi : Nat} {w : World} {nv : Int} {a : Option Addr} {n : Nat} {c : Nat} {xs : List AtomD} {ua : Option Addr} {un : Nat} {uc : Nat} {us : List Int} (h : QueryA fz lo hi w nv a n c xs ua un uc us) : QueryA false lo hi w nv a n c xs ua un uc us := ⟨h.1, rdAtoms h.2.1, rdInts h.2.2⟩
def szQuery (xs : List AtomD) (us : List Int) : Nat := atomsSz xs + us.length
set_option maxHeartbeats 1600000 in
theorem szK_Query {fz : Bool} {lo hi : Nat} (nv : Int) (a : Option Addr) (n : Nat) (c : Nat) (xs : List AtomD) (ua : Option Addr) (un : Nat) (uc : Nat) (us : List Int) (left : Int) (w : World) (hI : QueryA fz lo hi w nv a n c xs ua un uc us) (hh : hi ≤ w.heap.size) (h0 : 0 ≤ left) (h1 : left ≤ 1048576) :
    Calls Try.prog 4 #[queryV nv a n c ua un uc, .int .i64 left] w (Leaves w (.int .i64 (szI (szQuery xs us) left))) := by
  have DF1 := hid hI.2.1
  have DF2 := hid hI.2.2
  clear hI
  go_enter Try.func4, Try.ntmps4
  go_wp2_with fail
  refine (szK_Atoms a n c xs left _ (beAtoms (B := w.heap.size) DF1.out (by repeat (first | with_reducible assumption | with_reducible exact Below.refl _ _ | with_reducible refine below_drewN ?_ _ | with_reducible refine Below.al ?_ (by first | with_reducible exact Nat.le_refl _ | omega | (simp; done) | (simp; omega) | exact Nat.le_refl _) _ | with_reducible refine Below.setCell ?_ (by first | with_reducible exact Nat.le_refl _ | omega | (simp; done) | (simp; omega) | exact Nat.le_refl _) _ | assumption | exact Below.refl _ _ | refine below_drewN ?_ _ | refine Below.al ?_ (by first | with_reducible exact Nat.le_refl _ | omega | (simp; done) | (simp; omega) | exact Nat.le_refl _) _ | refine Below.setCell ?_ (by first | with_reducible exact Nat.le_refl _ | omega | (simp; done) | (simp; omega) | exact Nat.le_refl _) _)) (by first | with_reducible exact Nat.le_refl _ | omega | (simp; done) | (simp; omega) | exact Nat.le_refl _)) (by first | with_reducible exact Nat.le_refl _ | omega | (simp; done) | (simp; omega) | exact Nat.le_refl _) (by omega) (by omega)).mono ?_
  rintro e u1 ⟨rfl, hb⟩
  have hc : Below w.heap.size w u1 := Below.trans (by repeat (first | with_reducible assumption | with_reducible exact Below.refl _ _ | with_reducible refine below_drewN ?_ _ | with_reducible refine Below.al ?_ (by first | with_reducible exact Nat.le_refl _ | omega | (simp; done) | (simp; omega) | exact Nat.le_refl _) _ | with_reducible refine Below.setCell ?_ (by first | with_reducible exact Nat.le_refl _ | omega | (simp; done) | (simp; omega) | exact Nat.le_refl _) _ | assumption | exact Below.refl _ _ | refine below_drewN ?_ _ | refine Below.al ?_ (by first | with_reducible exact Nat.le_refl _ | omega | (simp; done) | (simp; omega) | exact Nat.le_refl _) _ | refine Below.setCell ?_ (by first | with_reducible exact Nat.le_refl _ | omega | (simp; done) | (simp; omega) | exact Nat.le_refl _) _)) (hb.mono (by first | with_reducible exact Nat.le_refl _ | omega | (simp; done) | (simp; omega) | exact Nat.le_refl _))
  have z1 : w.heap.size ≤ u1.heap.size := hc.size
  have B0c0 : u1.cell? ⟨w.heap.size, 0, none⟩ = some (.int .i64 nv) := (by rw [(bcell hb).1 _ _ (by first | omega | (simp; done) | (simp; omega))]; first | with_reducible assumption | (go_simp; done) | assumption | (simp [World.cell?]; done))
  have B0c1 : u1.cell? ⟨w.heap.size, 1, none⟩ = some (.slice a n c) := (by rw [(bcell hb).1 _ _ (by first | omega | (simp; done) | (simp; omega))]; first | with_reducible assumption | (go_simp; done) | assumption | (simp [World.cell?]; done))
  have B0c2 : u1.cell? ⟨w.heap.size, 2, none⟩ = some (.slice ua un uc) := (by rw [(bcell hb).1 _ _ (by first | omega | (simp; done) | (simp; omega))]; first | with_reducible assumption | (go_simp; done) | assumption | (simp [World.cell?]; done))
  have B0p : w.heap.size < u1.heap.size := World.block_lt_of_cell? _ _ B0c0
  have B0s : w.heap.size < u1.heap.size := B0p
  replace DF1 : Hid (AtomsA fz (lo) hi u1 a n c xs) := hid (beAtoms DF1.out hc (by omega))
  replace DF2 : Hid (IntsA fz (lo) hi u1 ua un uc us) := hid (beInts DF2.out hc (by omega))
  have HW := hid hc
  clear hb hc
  by_cases hsz1 : (atomsSz xs : Int) ≤ left
  · rw [szI_yes hsz1]
    obtain ⟨left0, hleft0⟩ : ∃ l, l = left - (atomsSz xs : Int) := ⟨_, rfl⟩
    rw [← hleft0]
    have hlo0 : 0 ≤ left0 := by omega
    have hhi0 : left0 ≤ 1048576 := by omega
    have HQ1 := hid (And.intro hsz1 hleft0); clear hsz1 hleft0
    go_wp2_with fail
    refine (szK_Ints ua un uc us left0 _ (beInts (B := u1.heap.size) DF2.out (by repeat (first | with_reducible assumption | with_reducible exact Below.refl _ _ | with_reducible refine below_drewN ?_ _ | with_reducible refine Below.al ?_ (by first | with_reducible exact Nat.le_refl _ | omega | (simp; done) | (simp; omega) | exact Nat.le_refl _) _ | with_reducible refine Below.setCell ?_ (by first | with_reducible exact Nat.le_refl _ | omega | (simp; done) | (simp; omega) | exact Nat.le_refl _) _ | assumption | exact Below.refl _ _ | refine below_drewN ?_ _ | refine Below.al ?_ (by first | with_reducible exact Nat.le_refl _ | omega | (simp; done) | (simp; omega) | exact Nat.le_refl _) _ | refine Below.setCell ?_ (by first | with_reducible exact Nat.le_refl _ | omega | (simp; done) | (simp; omega) | exact Nat.le_refl _) _)) (by first | with_reducible exact Nat.le_refl _ | omega | (simp; done) | (simp; omega) | exact Nat.le_refl _)) (by omega) (by omega)).mono ?_
    rintro e u2 hg; obtain ⟨rfl, hb⟩ := Gives.leaves hg; clear hg
    have hc : Below u1.heap.size u1 u2 := Below.trans (by repeat (first | with_reducible assumption | with_reducible exact Below.refl _ _ | with_reducible refine below_drewN ?_ _ | with_reducible refine Below.al ?_ (by first | with_reducible exact Nat.le_refl _ | omega | (simp; done) | (simp; omega) | exact Nat.le_refl _) _ | with_reducible refine Below.setCell ?_ (by first | with_reducible exact Nat.le_refl _ | omega | (simp; done) | (simp; omega) | exact Nat.le_refl _) _ | assumption | exact Below.refl _ _ | refine below_drewN ?_ _ | refine Below.al ?_ (by first | with_reducible exact Nat.le_refl _ | omega | (simp; done) | (simp; omega) | exact Nat.le_refl _) _ | refine Below.setCell ?_ (by first | with_reducible exact Nat.le_refl _ | omega | (simp; done) | (simp; omega) | exact Nat.le_refl _) _)) (hb.mono (by first | with_reducible exact Nat.le_refl _ | omega | (simp; done) | (simp; omega) | exact Nat.le_refl _))
    have z2 : u1.heap.size ≤ u2.heap.size := hc.size
    replace B0c0 : u2.cell? ⟨w.heap.size, 0, none⟩ = some (.int .i64 nv) := (by rw [(bcell hc).1 _ _ B0s]; exact B0c0)
    replace B0c1 : u2.cell? ⟨w.heap.size, 1, none⟩ = some (.slice a n c) := (by rw [(bcell hc).1 _ _ B0s]; exact B0c1)
    replace B0c2 : u2.cell? ⟨w.heap.size, 2, none⟩ = some (.slice ua un uc) := (by rw [(bcell hc).1 _ _ B0s]; exact B0c2)
    replace B0s : w.heap.size < u2.heap.size := (by omega)
    replace DF1 : Hid (AtomsA fz (lo) hi u2 a n c xs) := hid (beAtoms DF1.out hc (by omega))
    replace DF2 : Hid (IntsA fz (lo) hi u2 ua un uc us) := hid (beInts DF2.out hc (by omega))
    replace HW : Hid (Below w.heap.size w u2) := hid (Below.calm HW.out hc)
    clear hb hc
    by_cases hsz2 : (us.length : Int) ≤ left0
    · rw [szI_yes hsz2]
      obtain ⟨left1, hleft1⟩ : ∃ l, l = left0 - (us.length : Int) := ⟨_, rfl⟩
      rw [← hleft1]
      have hlo1 : 0 ≤ left1 := by omega
      have hhi1 : left1 ≤ 1048576 := by omega
      have HQ2 := hid (And.intro hsz2 hleft1); clear hsz2 hleft1
      have HE : Hid (szI (szQuery xs us) left = left1) := hid (by have g1 := HQ1.out; have g2 := HQ2.out; rw [szI_yes (by unfold szQuery; omega)]; unfold szQuery; omega)
      go_wp2_with fail
      go_ret
      exact ⟨by rw [HE.out]; rfl, HW.out⟩
    · rw [szI_no hsz2]
      have HQ2 := hid (szI_no (n := szQuery xs us) (left := left) (by unfold szQuery; have := HQ1.out.2; omega)); clear hsz2
      go_wp2_with fail
      go_ret
      exact ⟨by rw [HQ2.out]; rfl, HW.out⟩
  · rw [szI_no hsz1]
    have HQ1 := hid (szI_no (n := szQuery xs us) (left := left) (by unfold szQuery;  omega)); clear hsz1
    go_wp2_with fail
    go_ret
    exact ⟨by rw [HQ1.out]; rfl, HW.out⟩
set_option maxHeartbeats 1600000 in
theorem eqK_Query {fz fz' : Bool} {lo hi lo' hi' : Nat} (nv : Int) (a : Option Addr) (n : Nat) (c : Nat) (xs : List AtomD) (ua : Option Addr) (un : Nat) (uc : Nat) (us : List Int) (a_ : Option Addr) (n_ : Nat) (c_ : Nat) (ua_ : Option Addr) (un_ : Nat) (uc_ : Nat) (w : World) (hI : QueryA fz lo hi w nv a n c xs ua un uc us) (hh : hi ≤ w.heap.size) (hJ : QueryA fz' lo' hi' w nv a_ n_ c_ xs ua_ un_ uc_ us) (hh' : hi' ≤ w.heap.size) :
    Calls Try.prog 9 #[queryV nv a n c ua un uc, queryV nv a_ n_ c_ ua_ un_ uc_] w (Leaves w (.bool true)) := by
  have DF1 := hid hI.2.1
  have DG1 := hid hJ.2.1
  have DF2 := hid hI.2.2
  have DG2 := hid hJ.2.2
  have hne0 : (nv != nv) = false := by simp
  clear hI hJ
  go_enter Try.func9, Try.ntmps9
  go_wp2_with fail
  refine (eqK_Atoms a a_ n c n_ c_ xs _ (beAtoms (B := w.heap.size) DF1.out (by repeat (first | with_reducible assumption | with_reducible exact Below.refl _ _ | with_reducible refine below_drewN ?_ _ | with_reducible refine Below.al ?_ (by first | with_reducible exact Nat.le_refl _ | omega | (simp; done) | (simp; omega) | exact Nat.le_refl _) _ | with_reducible refine Below.setCell ?_ (by first | with_reducible exact Nat.le_refl _ | omega | (simp; done) | (simp; omega) | exact Nat.le_refl _) _ | assumption | exact Below.refl _ _ | refine below_drewN ?_ _ | refine Below.al ?_ (by first | with_reducible exact Nat.le_refl _ | omega | (simp; done) | (simp; omega) | exact Nat.le_refl _) _ | refine Below.setCell ?_ (by first | with_reducible exact Nat.le_refl _ | omega | (simp; done) | (simp; omega) | exact Nat.le_refl _) _)) (by first | with_reducible exact Nat.le_refl _ | omega | (simp; done) | (simp; omega) | exact Nat.le_refl _)) (by first | with_reducible exact Nat.le_refl _ | omega | (simp; done) | (simp; omega) | exact Nat.le_refl _) (beAtoms (B := w.heap.size) DG1.out (by repeat (first | with_reducible assumption | with_reducible exact Below.refl _ _ | with_reducible refine below_drewN ?_ _ | with_reducible refine Below.al ?_ (by first | with_reducible exact Nat.le_refl _ | omega | (simp; done) | (simp; omega) | exact Nat.le_refl _) _ | with_reducible refine Below.setCell ?_ (by first | with_reducible exact Nat.le_refl _ | omega | (simp; done) | (simp; omega) | exact Nat.le_refl _) _ | assumption | exact Below.refl _ _ | refine below_drewN ?_ _ | refine Below.al ?_ (by first | with_reducible exact Nat.le_refl _ | omega | (simp; done) | (simp; omega) | exact Nat.le_refl _) _ | refine Below.setCell ?_ (by first | with_reducible exact Nat.le_refl _ | omega | (simp; done) | (simp; omega) | exact Nat.le_refl _) _)) (by first | with_reducible exact Nat.le_refl _ | omega | (simp; done) | (simp; omega) | exact Nat.le_refl _)) (by first | with_reducible exact Nat.le_refl _ | omega | (simp; done) | (simp; omega) | exact Nat.le_refl _)).mono ?_
  rintro e u1 ⟨rfl, hb⟩
  have hc : Below w.heap.size w u1 := Below.trans (by repeat (first | with_reducible assumption | with_reducible exact Below.refl _ _ | with_reducible refine below_drewN ?_ _ | with_reducible refine Below.al ?_ (by first | with_reducible exact Nat.le_refl _ | omega | (simp; done) | (simp; omega) | exact Nat.le_refl _) _ | with_reducible refine Below.setCell ?_ (by first | with_reducible exact Nat.le_refl _ | omega | (simp; done) | (simp; omega) | exact Nat.le_refl _) _ | assumption | exact Below.refl _ _ | refine below_drewN ?_ _ | refine Below.al ?_ (by first | with_reducible exact Nat.le_refl _ | omega | (simp; done) | (simp; omega) | exact Nat.le_refl _) _ | refine Below.setCell ?_ (by first | with_reducible exact Nat.le_refl _ | omega | (simp; done) | (simp; omega) | exact Nat.le_refl _) _)) (hb.mono (by first | with_reducible exact Nat.le_refl _ | omega | (simp; done) | (simp; omega) | exact Nat.le_refl _))
  have z1 : w.heap.size ≤ u1.heap.size := hc.size
  have B0c0 : u1.cell? ⟨w.heap.size, 0, none⟩ = some (.int .i64 nv) := (by rw [(bcell hb).1 _ _ (by first | omega | (simp; done) | (simp; omega))]; first | with_reducible assumption | (go_simp; done) | assumption | (simp [World.cell?]; done))
  have B0c1 : u1.cell? ⟨w.heap.size, 1, none⟩ = some (.slice a n c) := (by rw [(bcell hb).1 _ _ (by first | omega | (simp; done) | (simp; omega))]; first | with_reducible assumption | (go_simp; done) | assumption | (simp [World.cell?]; done))
  have B0c2 : u1.cell? ⟨w.heap.size, 2, none⟩ = some (.slice ua un uc) := (by rw [(bcell hb).1 _ _ (by first | omega | (simp; done) | (simp; omega))]; first | with_reducible assumption | (go_simp; done) | assumption | (simp [World.cell?]; done))
  have B0p : w.heap.size < u1.heap.size := World.block_lt_of_cell? _ _ B0c0
  have B0s : w.heap.size < u1.heap.size := B0p
  have B1c0 : u1.cell? ⟨w.heap.size + 1, 0, none⟩ = some (.int .i64 nv) := (by rw [(bcell hb).1 _ _ (by first | omega | (simp; done) | (simp; omega))]; first | with_reducible assumption | (go_simp; done) | assumption | (simp [World.cell?]; done))
  have B1c1 : u1.cell? ⟨w.heap.size + 1, 1, none⟩ = some (.slice a_ n_ c_) := (by rw [(bcell hb).1 _ _ (by first | omega | (simp; done) | (simp; omega))]; first | with_reducible assumption | (go_simp; done) | assumption | (simp [World.cell?]; done))
  have B1c2 : u1.cell? ⟨w.heap.size + 1, 2, none⟩ = some (.slice ua_ un_ uc_) := (by rw [(bcell hb).1 _ _ (by first | omega | (simp; done) | (simp; omega))]; first | with_reducible assumption | (go_simp; done) | assumption | (simp [World.cell?]; done))
  have B1p : w.heap.size + 1 < u1.heap.size := World.block_lt_of_cell? _ _ B1c0
  have B1s : w.heap.size + 1 < u1.heap.size := B1p
  replace DF1 : Hid (AtomsA fz (lo) hi u1 a n c xs) := hid (beAtoms DF1.out hc (by omega))
  replace DG1 : Hid (AtomsA fz' (lo') hi' u1 a_ n_ c_ xs) := hid (beAtoms DG1.out hc (by omega))
  replace DF2 : Hid (IntsA fz (lo) hi u1 ua un uc us) := hid (beInts DF2.out hc (by omega))
  replace DG2 : Hid (IntsA fz' (lo') hi' u1 ua_ un_ uc_ us) := hid (beInts DG2.out hc (by omega))
  have HW := hid hc
  clear hb hc
  go_wp2_with fail
  refine (eqK_Ints ua ua_ un uc un_ uc_ us _ (beInts (B := u1.heap.size) DF2.out (by repeat (first | with_reducible assumption | with_reducible exact Below.refl _ _ | with_reducible refine below_drewN ?_ _ | with_reducible refine Below.al ?_ (by first | with_reducible exact Nat.le_refl _ | omega | (simp; done) | (simp; omega) | exact Nat.le_refl _) _ | with_reducible refine Below.setCell ?_ (by first | with_reducible exact Nat.le_refl _ | omega | (simp; done) | (simp; omega) | exact Nat.le_refl _) _ | assumption | exact Below.refl _ _ | refine below_drewN ?_ _ | refine Below.al ?_ (by first | with_reducible exact Nat.le_refl _ | omega | (simp; done) | (simp; omega) | exact Nat.le_refl _) _ | refine Below.setCell ?_ (by first | with_reducible exact Nat.le_refl _ | omega | (simp; done) | (simp; omega) | exact Nat.le_refl _) _)) (by first | with_reducible exact Nat.le_refl _ | omega | (simp; done) | (simp; omega) | exact Nat.le_refl _)) (beInts (B := u1.heap.size) DG2.out (by repeat (first | with_reducible assumption | with_reducible exact Below.refl _ _ | with_reducible refine below_drewN ?_ _ | with_reducible refine Below.al ?_ (by first | with_reducible exact Nat.le_refl _ | omega | (simp; done) | (simp; omega) | exact Nat.le_refl _) _ | with_reducible refine Below.setCell ?_ (by first | with_reducible exact Nat.le_refl _ | omega | (simp; done) | (simp; omega) | exact Nat.le_refl _) _ | assumption | exact Below.refl _ _ | refine below_drewN ?_ _ | refine Below.al ?_ (by first | with_reducible exact Nat.le_refl _ | omega | (simp; done) | (simp; omega) | exact Nat.le_refl _) _ | refine Below.setCell ?_ (by first | with_reducible exact Nat.le_refl _ | omega | (simp; done) | (simp; omega) | exact Nat.le_refl _) _)) (by first | with_reducible exact Nat.le_refl _ | omega | (simp; done) | (simp; omega) | exact Nat.le_refl _))).mono ?_
  rintro e u2 hg; obtain ⟨rfl, hb⟩ := Gives.leaves hg; clear hg
  have hc : Below u1.heap.size u1 u2 := Below.trans (by repeat (first | with_reducible assumption | with_reducible exact Below.refl _ _ | with_reducible refine below_drewN ?_ _ | with_reducible refine Below.al ?_ (by first | with_reducible exact Nat.le_refl _ | omega | (simp; done) | (simp; omega) | exact Nat.le_refl _) _ | with_reducible refine Below.setCell ?_ (by first | with_reducible exact Nat.le_refl _ | omega | (simp; done) | (simp; omega) | exact Nat.le_refl _) _ | assumption | exact Below.refl _ _ | refine below_drewN ?_ _ | refine Below.al ?_ (by first | with_reducible exact Nat.le_refl _ | omega | (simp; done) | (simp; omega) | exact Nat.le_refl _) _ | refine Below.setCell ?_ (by first | with_reducible exact Nat.le_refl _ | omega | (simp; done) | (simp; omega) | exact Nat.le_refl _) _)) (hb.mono (by first | with_reducible exact Nat.le_refl _ | omega | (simp; done) | (simp; omega) | exact Nat.le_refl _))
  have z2 : u1.heap.size ≤ u2.heap.size := hc.size
  replace B0c0 : u2.cell? ⟨w.heap.size, 0, none⟩ = some (.int .i64 nv) := (by rw [(bcell hc).1 _ _ B0s]; exact B0c0)
  replace B0c1 : u2.cell? ⟨w.heap.size, 1, none⟩ = some (.slice a n c) := (by rw [(bcell hc).1 _ _ B0s]; exact B0c1)
  replace B0c2 : u2.cell? ⟨w.heap.size, 2, none⟩ = some (.slice ua un uc) := (by rw [(bcell hc).1 _ _ B0s]; exact B0c2)
  replace B0s : w.heap.size < u2.heap.size := (by omega)
  replace B1c0 : u2.cell? ⟨w.heap.size + 1, 0, none⟩ = some (.int .i64 nv) := (by rw [(bcell hc).1 _ _ B1s]; exact B1c0)
  replace B1c1 : u2.cell? ⟨w.heap.size + 1, 1, none⟩ = some (.slice a_ n_ c_) := (by rw [(bcell hc).1 _ _ B1s]; exact B1c1)
  replace B1c2 : u2.cell? ⟨w.heap.size + 1, 2, none⟩ = some (.slice ua_ un_ uc_) := (by rw [(bcell hc).1 _ _ B1s]; exact B1c2)
  replace B1s : w.heap.size + 1 < u2.heap.size := (by omega)
  replace DF1 : Hid (AtomsA fz (lo) hi u2 a n c xs) := hid (beAtoms DF1.out hc (by omega))
  replace DG1 : Hid (AtomsA fz' (lo') hi' u2 a_ n_ c_ xs) := hid (beAtoms DG1.out hc (by omega))
  replace DF2 : Hid (IntsA fz (lo) hi u2 ua un uc us) := hid (beInts DF2.out hc (by omega))
  replace DG2 : Hid (IntsA fz' (lo') hi' u2 ua_ un_ uc_ us) := hid (beInts DG2.out hc (by omega))
  replace HW : Hid (Below w.heap.size w u2) := hid (Below.calm HW.out hc)
  clear hb hc
  go_wp2_with fail
  go_ret
  exact ⟨rfl, HW.out⟩
def cntQuery (xs : List AtomD) (us : List Int) : Nat := atomCnt xs xs.length + us.length
def GvQuery (w : World) (nv : Int) (xs : List AtomD) (us : List Int) (e : Ending) (w' : World) : Prop := ∃ a n c ua un uc, e = .returned (queryV nv a n c ua un uc) ∧ QueryA true w.heap.size w'.heap.size w' nv a n c xs ua un uc us ∧ Below w.heap.size w w'
set_option maxHeartbeats 3200000 in
theorem toK_Query {lo hi : Nat} (nv : Int) (a : Option Addr) (n : Nat) (c : Nat) (xs : List AtomD) (ua : Option Addr) (un : Nat) (uc : Nat) (us : List Int) (w : World) (hI : QueryA false lo hi w nv a n c xs ua un uc us) (hh : hi ≤ w.heap.size) (hs : szQuery xs us ≤ 1048576) :
    Calls Try.prog 6 #[queryV nv a n c ua un uc] w (GvQuery w nv xs us) := by
  have DF1 := hid hI.2.1
  have DF2 := hid hI.2.2
  have DF0 := hid hI.1
  clear hI
  have HS1 : Hid (atomsSz xs ≤ 1048576) := hid (by unfold szQuery at hs; omega)
  have HS2 : Hid (us.length ≤ 1048576) := hid (by unfold szQuery at hs; omega)
  clear hs
  go_enter Try.func6, Try.ntmps6
  go_wp2_with fail
  refine (toK_Atoms a n c xs _ (beAtoms (B := w.heap.size) DF1.out (by repeat (first | with_reducible assumption | with_reducible exact Below.refl _ _ | with_reducible refine below_drewN ?_ _ | with_reducible refine Below.al ?_ (by first | with_reducible exact Nat.le_refl _ | omega | (simp; done) | (simp; omega) | exact Nat.le_refl _) _ | with_reducible refine Below.setCell ?_ (by first | with_reducible exact Nat.le_refl _ | omega | (simp; done) | (simp; omega) | exact Nat.le_refl _) _ | assumption | exact Below.refl _ _ | refine below_drewN ?_ _ | refine Below.al ?_ (by first | with_reducible exact Nat.le_refl _ | omega | (simp; done) | (simp; omega) | exact Nat.le_refl _) _ | refine Below.setCell ?_ (by first | with_reducible exact Nat.le_refl _ | omega | (simp; done) | (simp; omega) | exact Nat.le_refl _) _)) hh) (by first | with_reducible exact Nat.le_refl _ | omega | (simp; done) | (simp; omega) | exact Nat.le_refl _) HS1.out).mono ?_
  rintro e u1 ⟨aR, nR, cR, rfl, ho, hb⟩
  have hz : w.heap.size + 3 ≤ u1.heap.size := by have := hb.size; simp at this; omega
  have hc : Below w.heap.size w u1 := Below.trans (by repeat (first | with_reducible assumption | with_reducible exact Below.refl _ _ | with_reducible refine below_drewN ?_ _ | with_reducible refine Below.al ?_ (by first | with_reducible exact Nat.le_refl _ | omega | (simp; done) | (simp; omega) | exact Nat.le_refl _) _ | with_reducible refine Below.setCell ?_ (by first | with_reducible exact Nat.le_refl _ | omega | (simp; done) | (simp; omega) | exact Nat.le_refl _) _ | assumption | exact Below.refl _ _ | refine below_drewN ?_ _ | refine Below.al ?_ (by first | with_reducible exact Nat.le_refl _ | omega | (simp; done) | (simp; omega) | exact Nat.le_refl _) _ | refine Below.setCell ?_ (by first | with_reducible exact Nat.le_refl _ | omega | (simp; done) | (simp; omega) | exact Nat.le_refl _) _)) (hb.mono (by simp; omega))
  replace DF2 : Hid (IntsA false (lo) hi u1 ua un uc us) := hid (beInts (B := w.heap.size) DF2.out hc (by omega))
  have a0 : u1.cell? ⟨w.heap.size, 0, none⟩ = some (.int .i64 nv) := (by rw [(bcell hb).1 _ _ (by first | omega | (simp; done) | (simp; omega))]; first | with_reducible assumption | (go_simp; done) | assumption | (simp [World.cell?]; done))
  have a1 : u1.cell? ⟨w.heap.size, 1, none⟩ = some (.slice a n c) := (by rw [(bcell hb).1 _ _ (by first | omega | (simp; done) | (simp; omega))]; first | with_reducible assumption | (go_simp; done) | assumption | (simp [World.cell?]; done))
  have a2 : u1.cell? ⟨w.heap.size, 2, none⟩ = some (.slice ua un uc) := (by rw [(bcell hb).1 _ _ (by first | omega | (simp; done) | (simp; omega))]; first | with_reducible assumption | (go_simp; done) | assumption | (simp [World.cell?]; done))
  have q0 : u1.cell? ⟨w.heap.size + 1, 0, none⟩ = some (.int .i64 0) := (by rw [(bcell hb).1 _ _ (by first | omega | (simp; done) | (simp; omega))]; first | with_reducible assumption | (go_simp; done) | assumption | (simp [World.cell?]; done))
  have qf0 : u1.frozen? ⟨w.heap.size + 1, 0, none⟩ = false := (by rw [(bcell hb).2 _ _ (by first | omega | (simp; done) | (simp; omega))]; first | with_reducible assumption | (go_simp; done) | assumption | (simp [World.frozen?]; done))
  have q1 : u1.cell? ⟨w.heap.size + 1, 1, none⟩ = some (.slice none 0 0) := (by rw [(bcell hb).1 _ _ (by first | omega | (simp; done) | (simp; omega))]; first | with_reducible assumption | (go_simp; done) | assumption | (simp [World.cell?]; done))
  have qf1 : u1.frozen? ⟨w.heap.size + 1, 1, none⟩ = false := (by rw [(bcell hb).2 _ _ (by first | omega | (simp; done) | (simp; omega))]; first | with_reducible assumption | (go_simp; done) | assumption | (simp [World.frozen?]; done))
  have q2 : u1.cell? ⟨w.heap.size + 1, 2, none⟩ = some (.slice none 0 0) := (by rw [(bcell hb).1 _ _ (by first | omega | (simp; done) | (simp; omega))]; first | with_reducible assumption | (go_simp; done) | assumption | (simp [World.cell?]; done))
  have qf2 : u1.frozen? ⟨w.heap.size + 1, 2, none⟩ = false := (by rw [(bcell hb).2 _ _ (by first | omega | (simp; done) | (simp; omega))]; first | with_reducible assumption | (go_simp; done) | assumption | (simp [World.frozen?]; done))
  have r0 : u1.cell? ⟨w.heap.size + 2, 0, none⟩ = some (.int .i64 nv) := (by rw [(bcell hb).1 _ _ (by first | omega | (simp; done) | (simp; omega))]; first | with_reducible assumption | (go_simp; done) | assumption | (simp [World.cell?]; done))
  have rf0 : u1.frozen? ⟨w.heap.size + 2, 0, none⟩ = false := (by rw [(bcell hb).2 _ _ (by first | omega | (simp; done) | (simp; omega))]; first | with_reducible assumption | (go_simp; done) | assumption | (simp [World.frozen?]; done))
  have r1 : u1.cell? ⟨w.heap.size + 2, 1, none⟩ = some (.slice none 0 0) := (by rw [(bcell hb).1 _ _ (by first | omega | (simp; done) | (simp; omega))]; first | with_reducible assumption | (go_simp; done) | assumption | (simp [World.cell?]; done))
  have rf1 : u1.frozen? ⟨w.heap.size + 2, 1, none⟩ = false := (by rw [(bcell hb).2 _ _ (by first | omega | (simp; done) | (simp; omega))]; first | with_reducible assumption | (go_simp; done) | assumption | (simp [World.frozen?]; done))
  have r2 : u1.cell? ⟨w.heap.size + 2, 2, none⟩ = some (.slice none 0 0) := (by rw [(bcell hb).1 _ _ (by first | omega | (simp; done) | (simp; omega))]; first | with_reducible assumption | (go_simp; done) | assumption | (simp [World.cell?]; done))
  have rf2 : u1.frozen? ⟨w.heap.size + 2, 2, none⟩ = false := (by rw [(bcell hb).2 _ _ (by first | omega | (simp; done) | (simp; omega))]; first | with_reducible assumption | (go_simp; done) | assumption | (simp [World.frozen?]; done))
  have hI1 : Hid (AtomsA true (w.heap.size + 3) u1.heap.size u1 aR nR cR xs) := hid (by simpa using ho)
  have HW := hid hc
  clear ho hb hc
  have hz1 : w.heap.size + 3 ≤ u1.heap.size := hz; clear hz
  go_wp2_with fail
  refine (toK_Ints ua un uc us _ (beInts (B := w.heap.size) DF2.out (by repeat (first | with_reducible assumption | with_reducible exact Below.refl _ _ | with_reducible refine below_drewN ?_ _ | with_reducible refine Below.al ?_ (by first | with_reducible exact Nat.le_refl _ | omega | (simp; done) | (simp; omega) | exact Nat.le_refl _) _ | with_reducible refine Below.setCell ?_ (by first | with_reducible exact Nat.le_refl _ | omega | (simp; done) | (simp; omega) | exact Nat.le_refl _) _ | assumption | exact Below.refl _ _ | refine below_drewN ?_ _ | refine Below.al ?_ (by first | with_reducible exact Nat.le_refl _ | omega | (simp; done) | (simp; omega) | exact Nat.le_refl _) _ | refine Below.setCell ?_ (by first | with_reducible exact Nat.le_refl _ | omega | (simp; done) | (simp; omega) | exact Nat.le_refl _) _)) (by omega)) (by first | with_reducible exact Nat.le_refl _ | omega | (simp; done) | (simp; omega) | exact Nat.le_refl _) HS2.out).mono ?_
  rintro e u2 ⟨uaR, unR, ucR, rfl, ho, hb⟩
  have hz : u1.heap.size ≤ u2.heap.size := by have := hb.size; simp only [szSet] at this; omega
  have hs2 : Below w.heap.size u1 u2 := Below.trans (Below.setCell (Below.refl _ _) (by dsimp only; omega) _) (hb.mono (by simp only [szSet]; omega))
  have hc : Below w.heap.size w u2 := HW.out.trans hs2
  replace a0 : u2.cell? ⟨w.heap.size, 0, none⟩ = some (.int .i64 nv) := by rw [(bcell hb).1 _ _ (by simp only [szSet]; omega)]; rw [cset_other (by intro h; simp only [Addr.mk.injEq] at h; omega)]; exact a0
  replace a1 : u2.cell? ⟨w.heap.size, 1, none⟩ = some (.slice a n c) := by rw [(bcell hb).1 _ _ (by simp only [szSet]; omega)]; rw [cset_other (by intro h; simp only [Addr.mk.injEq] at h; omega)]; exact a1
  replace a2 : u2.cell? ⟨w.heap.size, 2, none⟩ = some (.slice ua un uc) := by rw [(bcell hb).1 _ _ (by simp only [szSet]; omega)]; rw [cset_other (by intro h; simp only [Addr.mk.injEq] at h; omega)]; exact a2
  replace q0 : u2.cell? ⟨w.heap.size + 1, 0, none⟩ = some (.int .i64 0) := by rw [(bcell hb).1 _ _ (by simp only [szSet]; omega)]; rw [cset_other (by intro h; simp only [Addr.mk.injEq] at h; omega)]; exact q0
  replace qf0 : u2.frozen? ⟨w.heap.size + 1, 0, none⟩ = false := by rw [(bcell hb).2 _ _ (by simp only [szSet]; omega)]; simp only [fset]; exact qf0
  replace q1 : u2.cell? ⟨w.heap.size + 1, 1, none⟩ = some (.slice none 0 0) := by rw [(bcell hb).1 _ _ (by simp only [szSet]; omega)]; rw [cset_other (by intro h; simp only [Addr.mk.injEq] at h; omega)]; exact q1
  replace qf1 : u2.frozen? ⟨w.heap.size + 1, 1, none⟩ = false := by rw [(bcell hb).2 _ _ (by simp only [szSet]; omega)]; simp only [fset]; exact qf1
  replace q2 : u2.cell? ⟨w.heap.size + 1, 2, none⟩ = some (.slice none 0 0) := by rw [(bcell hb).1 _ _ (by simp only [szSet]; omega)]; rw [cset_other (by intro h; simp only [Addr.mk.injEq] at h; omega)]; exact q2
  replace qf2 : u2.frozen? ⟨w.heap.size + 1, 2, none⟩ = false := by rw [(bcell hb).2 _ _ (by simp only [szSet]; omega)]; simp only [fset]; exact qf2
  replace r0 : u2.cell? ⟨w.heap.size + 2, 0, none⟩ = some (.int .i64 nv) := by rw [(bcell hb).1 _ _ (by simp only [szSet]; omega)]; rw [cset_other (by intro h; simp only [Addr.mk.injEq] at h; omega)]; exact r0
  replace rf0 : u2.frozen? ⟨w.heap.size + 2, 0, none⟩ = false := by rw [(bcell hb).2 _ _ (by simp only [szSet]; omega)]; simp only [fset]; exact rf0
  replace r1 : u2.cell? ⟨w.heap.size + 2, 1, none⟩ = some (.slice aR nR cR) := by rw [(bcell hb).1 _ _ (by simp only [szSet]; omega)]; exact cset_same (u := .slice none 0 0) r1
  replace rf1 : u2.frozen? ⟨w.heap.size + 2, 1, none⟩ = false := by rw [(bcell hb).2 _ _ (by simp only [szSet]; omega)]; simp only [fset]; exact rf1
  replace r2 : u2.cell? ⟨w.heap.size + 2, 2, none⟩ = some (.slice none 0 0) := by rw [(bcell hb).1 _ _ (by simp only [szSet]; omega)]; rw [cset_other (by intro h; simp only [Addr.mk.injEq] at h; omega)]; exact r2
  replace rf2 : u2.frozen? ⟨w.heap.size + 2, 2, none⟩ = false := by rw [(bcell hb).2 _ _ (by simp only [szSet]; omega)]; simp only [fset]; exact rf2
  have hI2 : Hid (IntsA true (u1.heap.size) u2.heap.size u2 uaR unR ucR us) := hid (by simpa using ho)
  replace hI1 : Hid (AtomsA true (w.heap.size + 3) u1.heap.size u2 aR nR cR xs) := hid (kpAtoms hI1.out (Keeps.trans (Keeps.sc (Keeps.refl _ _ _) (.inl (by omega)) _) (Keeps.of_below hb (by simp only [szSet]; omega))))
  replace HW := hid hc
  clear ho hb hc hs2
  have hz2 : u1.heap.size ≤ u2.heap.size := hz; clear hz
  go_wp2_with fail
  refine bodyPost_ret (v := queryV nv aR nR cR uaR unR ucR) ?_ rfl ⟨_, _, _, _, _, _, rfl, ?_, ?_⟩
  · (simp [results, Try.results6, go_sem, q0, q1, q2]; done)
  · exact ⟨DF0.out, (hgAtoms (wdAtoms (kpAtoms hI1.out (Keeps.sc (Keeps.sc (Keeps.sc (Keeps.sc (Keeps.refl _ _ _) (.inl (by omega)) _) (.inl (by omega)) _) (.inl (by omega)) _) (.inl (by omega)) _)) (by omega)) (by simp only [szSet]; omega)), (hgInts (wdInts (kpInts hI2.out (Keeps.sc (Keeps.sc (Keeps.sc (Keeps.sc (Keeps.refl _ _ _) (.inl (by omega)) _) (.inl (by omega)) _) (.inl (by omega)) _) (.inl (by omega)) _)) (by omega)) (by simp only [szSet]; omega))⟩
  · exact Below.trans HW.out (Below.setCell (Below.setCell (Below.setCell (Below.setCell (Below.refl _ _) (by dsimp only; omega) _) (by dsimp only; omega) _) (by dsimp only; omega) _) (by dsimp only; omega) _)
/- Walks: marking a query. -/
theorem cntQuery_le (xs : List AtomD) (us : List Int) : cntQuery xs us ≤ szQuery xs us := by
  have := atomCnt_le xs xs.length
  unfold cntQuery szQuery atomsSz; omega
set_option maxHeartbeats 1600000 in
theorem markK_Query {lo hi : Nat} (nv : Int) (a : Option Addr) (n c : Nat) (xs : List AtomD) (ua : Option Addr) (un uc : Nat) (us : List Int) (k : Int) (w : World) (hI : QueryA true lo hi w nv a n c xs ua un uc us) (hh : hi ≤ w.heap.size) (h0 : 0 ≤ k) (h1 : k ≤ 2097152) (hs : szQuery xs us ≤ 1048576) :
    Calls Try.prog 10 #[queryV nv a n c ua un uc, .int .i64 k] w (GivesMQ lo hi w (k + (cntQuery xs us : Nat))) := by
  obtain ⟨k, rfl⟩ := Int.eq_ofNat_of_zero_le h0
  have hlx := hI.2.1.len
  have hlu := hI.2.2.len
  have hsa : atomsSz xs ≤ 1048576 := by unfold szQuery at hs; omega
  have hun : un ≤ 1048576 := by unfold szQuery at hs; omega
  have hcn : k + atomCnt xs n ≤ 3145728 := by have := atomCnt_le xs xs.length; unfold atomsSz at hsa; rw [hlx] at this hsa; omega
  have HL := hid (And.intro hlx hlu); clear hlx hlu
  have HS := hid hsa; clear hsa hs
  have HI := hid hI; clear hI
  obtain ⟨m, hm⟩ : ∃ m : Nat, m = k + atomCnt xs n := ⟨_, rfl⟩
  have hmb : m ≤ 3145728 := by omega
  have HM := hid hm; clear hm hcn
  go_enter Try.func10, Try.ntmps10
  go_wp2_with fail
  refine (markAtoms a n c xs k _ (beAtoms (B := w.heap.size) HI.out.2.1 (by repeat (first | with_reducible assumption | with_reducible exact Below.refl _ _ | with_reducible refine below_drewN ?_ _ | with_reducible refine Below.al ?_ (by first | with_reducible exact Nat.le_refl _ | omega | (simp; done) | (simp; omega) | exact Nat.le_refl _) _ | with_reducible refine Below.setCell ?_ (by first | with_reducible exact Nat.le_refl _ | omega | (simp; done) | (simp; omega) | exact Nat.le_refl _) _ | assumption | exact Below.refl _ _ | refine below_drewN ?_ _ | refine Below.al ?_ (by first | with_reducible exact Nat.le_refl _ | omega | (simp; done) | (simp; omega) | exact Nat.le_refl _) _ | refine Below.setCell ?_ (by first | with_reducible exact Nat.le_refl _ | omega | (simp; done) | (simp; omega) | exact Nat.le_refl _) _)) hh) (by first | with_reducible exact Nat.le_refl _ | omega | (simp; done) | (simp; omega) | exact Nat.le_refl _) (by omega) HS.out).mono ?_
  rintro e w1 ⟨rfl, hm1⟩
  rw [← HM.out]
  have hm2 : MarkedQ lo hi w w1 := (MarkedQ.of (MarkedG.of_below (by repeat (first | with_reducible assumption | with_reducible exact Below.refl _ _ | with_reducible refine below_drewN ?_ _ | with_reducible refine Below.al ?_ (by first | with_reducible exact Nat.le_refl _ | omega | (simp; done) | (simp; omega) | exact Nat.le_refl _) _ | with_reducible refine Below.setCell ?_ (by first | with_reducible exact Nat.le_refl _ | omega | (simp; done) | (simp; omega) | exact Nat.le_refl _) _ | assumption | exact Below.refl _ _ | refine below_drewN ?_ _ | refine Below.al ?_ (by first | with_reducible exact Nat.le_refl _ | omega | (simp; done) | (simp; omega) | exact Nat.le_refl _) _ | refine Below.setCell ?_ (by first | with_reducible exact Nat.le_refl _ | omega | (simp; done) | (simp; omega) | exact Nat.le_refl _) _)))).trans hm1
  have c2 : w1.cell? ⟨w.heap.size, 2, none⟩ = some (.slice ua un uc) := by rw [boxQ hm1 _ (by simp) (by omega)]; first | (go_simp; done) | (simp [World.cell?]; done)
  obtain ⟨ys, hy⟩ := HI.out.2.2.markedQ hm2
  have HY := hid hy; clear hy
  have HM2 := hid hm2; clear hm1 hm2
  go_wp2_with fail
  refine (markInts ua un uc ys m _ HY.out (by omega) (by omega) hun).mono ?_
  rintro e w2 ⟨rfl, hm3, _⟩
  have HM3 := hid (HM2.out.trans (.of (.of_marked hm3))); clear hm3
  have HE : Hid ((m : Int) + un = (k : Int) + (cntQuery xs us : Nat)) := hid (by unfold cntQuery; rw [HL.out.1, HL.out.2, HM.out]; omega)
  go_wp2_with fail
  go_ret
  exact ⟨by rw [← HE.out]; rfl, HM3.out⟩
end Go.Proofs.Ytdimcbollnggjaa
